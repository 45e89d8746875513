/-
  Merged texts.
-/
import Derived.Test.YtodofogcincleaaGreatDoorAbM
import Derived.Lib.Strings
import Derived.Lib.Bytealg
import Derived.Lib.LastIndexByte
import Derived.Lib.IndexBytes
set_option linter.all false
namespace NP
abbrev Bs:=List UInt8
def S(s:ByteArray):Bs:=s.data.toList
def mk(l:Bs):ByteArray:=⟨l.toArray⟩
@[simp] theorem S_mk (l:Bs):S (mk l)=l:=by simp[S,mk]
@[simp] theorem mk_S (s:ByteArray):mk (S s)=s:=by cases s;simp[S,mk]
theorem Cm{a b:ByteArray}(h:S a=S b):a=b:=by rw[<- mk_S a, <- mk_S b,h]
theorem cz(s:ByteArray):s.size=(S s).length:=by cases s;simp[S,ByteArray.size]
theorem fW(s:ByteArray):s.toList=S s:=Go.Lib.toList_data s
theorem kH(s:ByteArray)(a b:Nat):S (s.extract a b)=((S s).drop a).take (b-a):=Go.Lib.extract_data s a b
def bL:Bs->List Bs
 |[]=>[[]]
 |c::cs=>if c=46 then[]::bL cs else
  match bL cs with
  |[]=>[[c]]
  |h::t=>(c::h)::t
theorem iU(s:Bs):bL s≠[]:=by
 cases s with
 |nil=>simp[bL]
 |cons c cs =>
  unfold bL;split
  . simp
  . split <;> simp
theorem ir(s:Bs)(h:(46:UInt8) ∉ s):bL s=[s]:=by
 induction s with
 |nil=>rfl
 |cons c cs ih =>
  simp only[List.mem_cons,not_or]at h;rw[bL,if_neg (λe=>h.1 e.symm),ih h.2]
theorem kD(a b:Bs):bL (a++46::b)=bL a++bL b:=by
 induction a with
 |nil=>simp[bL]
 |cons c cs ih =>
  rw[List.cons_append,bL,bL];split
  . rw[ih];rfl
  . rw[ih];have:=iU cs;cases h:bL cs with
    |nil=>exact absurd h this
    |cons x t=>rfl
def fh:List Bs->Bs
 |[]=>[]
 |[x]=>x
 |x::y::t=>x++46::fh (y::t)
theorem mW(x:Bs)(t:List Bs)(h:t≠[]):fh (x::t)=x++46::fh t:=by
 cases t with
 |nil=>exact absurd rfl h
 |cons y t=>rfl
theorem fj(s:Bs):fh (bL s)=s:=by
 induction s with
 |nil=>rfl
 |cons c cs ih =>
  unfold bL;split
  . rename_i h;rw[mW _ _ (iU cs),ih,h];rfl
  . cases h:bL cs with
    |nil=>exact absurd h (iU cs)
    |cons x t =>
     rw[h]at ih;cases t with
     |nil=>simp only[fh]at ih ⊢;rw[ih]
     |cons y t=>simp only[fh]at ih ⊢;rw[List.cons_append,ih]
theorem qn(l:List Bs)(h0:l≠[])(h:∀x∈l,(46:UInt8) ∉ x):bL (fh l)=l:=by
 induction l with
 |nil=>exact absurd rfl h0
 |cons x t ih =>
  cases t with
  |nil=>exact ir x (h x (by simp))
  |cons y t =>
   rw[fh,kD,ir x (h x (by simp)),ih (by simp) (λz hz=>h z (aZ _ hz))];rfl
def back(s:Bs):List Bs:=if s=[46]then[]else(bL s).reverse
theorem uR(s:ByteArray) :
 (Go.Lib.lastIndexByte s 46= -1/\bL (S s)=[S s]) \/
 (∃i:Nat,i<s.size/\Go.Lib.lastIndexByte s 46=i/\bL (S s)=bL (S (s.extract 0 i))++[S (s.extract (i+1) s.size)]):=by
 have hget:∀j (hj:j<s.size),s.data[j]! =(S s)[j]'(by rw[<- cz];exact hj):=by
  intro j hj;cases s with
  |mk d=>simp[S,ByteArray.size]at hj ⊢;simp[hj]
 rcases Go.Lib.lastIndexByte_spec s 46 with ⟨h,hn⟩|⟨i,hi,h,hc,hn⟩
 . refine .inl ⟨h,ir _ ?_⟩;intro hm;obtain⟨j,hj,e⟩:=List.getElem_of_mem hm;have hj' :j<s.size:=by rw[cz];exact hj
   have:=hn j hj';rw[hget j hj',e]at this;exact this rfl
 . refine .inr ⟨i,hi,h,?_⟩;have hi' :i<(S s).length:=by rw[<- cz];exact hi
   have e46:(S s)[i]=46:=by
    rw[hget i hi]at hc;exact UInt8.toNat_inj.1 (by have:=hc;simp at this ⊢;omega)
   have hs:S s=(S s).take i++46::(S s).drop (i+1):=by
    conv=>lhs;rw[<- List.take_append_drop i (S s)]
    rw[List.drop_eq_getElem_cons hi',e46]
   have hd:(46:UInt8) ∉ (S s).drop (i+1):=by
    intro hm;obtain⟨j,hj,e⟩:=List.getElem_of_mem hm;rw[List.getElem_drop]at e;have hj2:i+1+j<s.size:=by rw[cz];simp at hj;omega
    have:=hn (i+1+j) (by omega) hj2;rw[hget _ hj2,e]at this;exact this rfl
   rw[kH,kH]
   conv=>lhs;rw[hs]
   rw[kD,ir _ hd]
   congr 2
   rw[cz,List.take_of_length_le (by simp)]
def dU(c:UInt8):Bool:=(97<=c&&c<=122)||(48<=c&&c<=57)||c==45
def cv(l:Bs):Bool:=decide (1<=l.length)&&decide (l.length<=12)&&(l.head? != some 45)&&(l.getLast? != some 45)&&l.all dU
def vgo:Bool->Nat->List Bs->Bool
 |_,_,[]=>true
 |Kl,count,l::ls=>if Kl||decide (8<count+1)then false else if l != [42]&& !cv l then false else vgo (l==[42]) (count+1) ls
def bc(s:Bs):Bool:=s==[46]||(decide (s.length<=60)&&vgo false 0 (back s))
/-! ### Orders -/
structure iO{α:Type}(cmp:α->α->Int):Prop where
 range:∀a b,cmp a b= -1\/cmp a b=0\/cmp a b=1
 zero:∀a b,cmp a b=0 ↔ a=b
 anti:∀a b,cmp b a= -cmp a b
 lt:∀a b c,cmp a b= -1->cmp b c= -1->cmp a c= -1
def bZ{α:Type}(cmp:α->α->Int):List α->List α->Int
 |[],[]=>0
 |[],_::_=> -1
 |_::_,[]=>1
 |a::as,b::bs=>if cmp a b=0 then bZ cmp as bs else cmp a b
theorem wy{α:Type}{cmp:α->α->Int}(h:iO cmp):iO (bZ cmp) where
 range:=by
  intro a;induction a with
  |nil=>intro b;cases b <;> simp[bZ]
  |cons x a ih =>
   intro b;cases b with
   |nil=>simp[bZ]
   |cons y b =>
    unfold bZ;split
    . exact ih b
    . exact h.range x y
 zero:=by
  intro a;induction a with
  |nil=>intro b;cases b <;> simp[bZ]
  |cons x a ih =>
   intro b;cases b with
   |nil=>simp[bZ]
   |cons y b =>
    unfold bZ;split
    . rename_i e;rw[ih b,(h.zero x y).1 e];simp
    . rename_i e;have:x≠y:=λhe=>e ((h.zero x y).2 he)
      simp[e,this]
 anti:=by
  intro a;induction a with
  |nil=>intro b;cases b <;> simp[bZ]
  |cons x a ih =>
   intro b;cases b with
   |nil=>simp[bZ]
   |cons y b =>
    unfold bZ;have:=h.anti x y;by_cases e:cmp x y=0
    . rw[if_pos e,if_pos (by omega)];exact ih b
    . rw[if_neg e,if_neg (by omega)];exact this
 lt:=by
  intro a;induction a with
  |nil =>
   intro b c hb hc;cases c with
   |nil=>cases b <;> simp[bZ]at hb hc
   |cons z c=>simp[bZ]
  |cons x a ih =>
   intro b c hb hc;cases b with
   |nil=>simp[bZ]at hb
   |cons y b =>
    cases c with
    |nil=>simp[bZ]at hc
    |cons z c =>
     unfold bZ at hb hc ⊢;by_cases e1:cmp x y=0
     . rw[if_pos e1]at hb;obtain rfl:=(h.zero x y).1 e1;by_cases e2:cmp x z=0
       . rw[if_pos e2]at hc ⊢;exact ih b c hb hc
       . rw[if_neg e2]at hc ⊢;exact hc
     . rw[if_neg e1]at hb;by_cases e2:cmp y z=0
       . obtain rfl:=(h.zero y z).1 e2;rw[if_neg e1];exact hb
       . rw[if_neg e2]at hc;have:=h.lt x y z hb hc;rw[if_neg (by omega)];exact this
def jW(a b:UInt8):Int:=if a<b then -1 else if b<a then 1 else 0
theorem Fv:iO jW where
 range:=by intro a b;unfold jW;split;simp;split <;> simp
 zero:=by
  intro a b;unfold jW;split
  . rename_i h;simp;intro e;subst e;exact absurd h (UInt8.lt_irrefl a)
  . split
    . rename_i h;simp;intro e;subst e;exact absurd h (UInt8.lt_irrefl a)
    . rename_i h1 h2;simp only[true_iff];exact UInt8.le_antisymm (UInt8.not_lt.1 h2) (UInt8.not_lt.1 h1)
 anti:=by
  intro a b;unfold jW;by_cases h1:a<b
  . rw[if_neg (UInt8.lt_asymm h1),if_pos h1,if_pos h1];rfl
  . rw[if_neg h1,if_neg h1];by_cases h2:b<a
    . rw[if_pos h2,if_pos h2]
    . rw[if_neg h2,if_neg h2];rfl
 lt:=by
  intro a b c h1 h2;have k1:a<b:=by unfold jW at h1;split at h1;assumption;split at h1 <;> simp at h1
  have k2:b<c:=by unfold jW at h2;split at h2;assumption;split at h2 <;> simp at h2
  unfold jW;rw[if_pos (UInt8.lt_trans k1 k2)]
theorem yp(a b:Bs):Go.Lib.compareBytes a b=bZ jW a b:=by
 induction a generalizing b with
 |nil=>cases b <;> rfl
 |cons x a ih =>
  cases b with
  |nil=>rfl
  |cons y b =>
   unfold Go.Lib.compareBytes bZ;rw[ih b];have e:jW x y=if x<y then -1 else if y<x then 1 else 0:=rfl
   by_cases h1:x<y
   . rw[e];simp[h1]
   . by_cases h2:y<x
     . rw[e];simp[h1,h2]
     . rw[e];simp[h1,h2]
theorem cN:iO Go.Lib.compareBytes:=by
 have:Go.Lib.compareBytes=bZ jW:=funext λa=>funext λb=>yp a b
 rw[this];exact wy Fv
def cmpL(a b:List Bs):Int:=bZ Go.Lib.compareBytes a b
theorem nz:iO cmpL:=wy cN
theorem iO.le_trans{α:Type}{cmp:α->α->Int}(h:iO cmp){a b c:α}(h1:cmp a b<=0)(h2:cmp b c<=0):cmp a c<=0:=by
 have r1:=h.range a b;have r2:=h.range b c;by_cases e1:cmp a b=0
 . rw[(h.zero a b).1 e1];exact h2
 . by_cases e2:cmp b c=0
   . rw[<- (h.zero b c).1 e2];exact h1
   . have:=h.lt a b c (by omega) (by omega);omega
theorem iO.SH{α:Type}{cmp:α->α->Int}(h:iO cmp){a b c:α}(h1:cmp a b<0)(h2:cmp b c<=0):cmp a c<0:=by
 have r1:=h.range a b;have r2:=h.range b c;by_cases e2:cmp b c=0
 . rw[<- (h.zero b c).1 e2];exact h1
 . have:=h.lt a b c (by omega) (by omega);omega
theorem Fw{α:Type}{cmp:α->α->Int}(h:iO cmp)(p t:List α):bZ cmp p (p++t)<=0:=by
 induction p with
 |nil=>cases t <;> simp[bZ]
 |cons x p ih =>
  show bZ cmp (x::p) (x::(p++t))<=0
  unfold bZ;rw[if_pos ((h.zero x x).2 rfl)];exact ih
theorem qz{α:Type}{cmp:α->α->Int}(h:iO cmp):∀(p s t b:List α),bZ cmp (p++s) b<=0->bZ cmp b (p++t)<=0->p <+: b
 |[],_,_,b,_,_=>List.nil_prefix
 |x::p,s,t,[],h1,_=>by simp[bZ]at h1
 |x::p,s,t,y::b,h1,h2=>by
  have e1:bZ cmp (x::(p++s)) (y::b)<=0:=h1;have e2:bZ cmp (y::b) (x::(p++t))<=0:=h2;unfold bZ at e1 e2;have ha:=h.anti x y;have r:=h.range x y;by_cases e:cmp x y=0
  . obtain rfl:=(h.zero x y).1 e;rw[if_pos e]at e1 e2;exact List.cons_prefix_cons.2 ⟨rfl,qz h p s t b e1 e2⟩
  . rw[if_neg e]at e1;rw[if_neg (by omega)]at e2;omega
def cW(s:Bs):List Bs:=if s=[46]then[]else bL s
def nameOf(l:List Bs):Bs:=if l=[]then[46]else fh l
theorem back_eq(s:Bs):back s=(cW s).reverse:=by unfold back cW;split <;> simp
theorem rB(s:Bs):nameOf (cW s)=s:=by
 unfold cW nameOf;split
 . rename_i h;simp[h]
 . rw[if_neg (iU s),fj]
theorem xE{a b:Bs}(h:cW a=cW b):a=b:=by rw[<- rB a, <- rB b,h]
def okL(l:List Bs):Bool:=decide (l.length<=8)&&match l with
 |[]=>true
 |x::t=>(x==[42]||cv x)&&t.all cv
theorem DW:cv [42]=false:=by decide
theorem IY{x:Bs}(h:cv x=true):x≠[]:=by
 intro e;subst e;simp[cv]at h
theorem BZ{x:Bs}(h:cv x=true):(46:UInt8) ∉ x:=by
 intro hm;have:x.all dU=true:=by unfold cv at h;simp only[aH]at h;exact h.2
 have:=ay.1 this _ hm
 revert this;decide
theorem Pj(w:Bool)(c:Nat)(l:List Bs)(x:Bs) :
 vgo w c (l++[x])=(!w&&decide (c+l.length+1<=8)&&l.all cv&&(x==[42]||cv x)):=by
 induction l generalizing w c with
 |nil =>
  show vgo w c [x]=_
  simp only[vgo,List.length_nil,List.all_nil,Nat.add_zero,jm];by_cases hw:w=true
  . simp[hw]
  . have:w=false:=by simpa using hw
    subst this;by_cases hc:8<c+1
    . simp[hc];omega
    . have h1:c+1<=8:=by omega
      simp only[hc,decide_false,BU,eR,if_false,h1,decide_true,vz,gZ];by_cases h2:x=[42] <;> by_cases h3:cv x=true <;> simp_all
 |cons y l ih =>
  show vgo w c (y::(l++[x]))=_
  rw[vgo,ih];by_cases hw:w=true
  . simp[hw]
  . have:w=false:=by simpa using hw
    subst this;by_cases hy:y=[42]
    . subst hy;simp[DW]
    . by_cases hl:cv y=true
      . by_cases hc:8<c+1
        . simp[hc];intro h;omega
        . have e:c+1+l.length+1=c+(l.length+1)+1:=by omega
          have hy' :(y==[42])=false:=by simpa using hy
          simp[hc,hy',hl,e]
      . have hl' :cv y=false:=by simpa using hl
        simp[hy,hl']
theorem Rk(l:List Bs):vgo false 0 l.reverse=okL l:=by
 cases l with
 |nil=>rfl
 |cons x t =>
  rw[List.reverse_cons,Pj];simp only[okL,List.length_reverse,List.length_cons,List.all_reverse,Nat.zero_add,vz,gZ];cases decide (t.length+1<=8) <;> cases t.all cv <;> simp
theorem vl(s:Bs):bc s=(s==[46]||(decide (s.length<=60)&&okL (cW s))):=by
 unfold bc;rw[back_eq,Rk]
theorem vn{s:Bs}(h:bc s=true):okL (cW s)=true:=by
 rw[vl]at h;simp only[Bool.or_eq_true,beq_iff_eq,aH]at h;rcases h with h|h
 . subst h;decide
 . exact h.2
theorem fH{s:Bs}(h:bc s=true):s.length<=60:=by
 rw[vl]at h;simp only[Bool.or_eq_true,beq_iff_eq,aH,decide_eq_true_eq]at h;rcases h with h|h
 . subst h;decide
 . exact h.1
theorem Hm{l:List Bs}(h:okL l=true){x:Bs}(hx:x∈l):x=[42]\/cv x=true:=by
 cases l with
 |nil=>cases hx
 |cons y t =>
  simp only[okL,aH,Bool.or_eq_true,beq_iff_eq]at h;rcases List.mem_cons.1 hx with rfl|hx
  . exact h.2.1
  . exact .inr (ay.1 h.2.2 x hx)
theorem Sa{l:List Bs}(h:okL l=true){x:Bs}(hx:x∈l):x≠[]:=by
 rcases Hm h hx with rfl|h
 . simp
 . exact IY h
theorem Bt{l:List Bs}(h:okL l=true){x:Bs}(hx:x∈l):(46:UInt8) ∉ x:=by
 rcases Hm h hx with rfl|h
 . decide
 . exact BZ h
theorem QP{l:List Bs}(h:okL l=true):l.length<=8:=by
 simp only[okL,aH,decide_eq_true_eq]at h;exact h.1
theorem Aq{l:List Bs}(h0:l≠[])(h:okL l=true):fh l≠[46]:=by
 intro e;have hs:=qn l h0 (λx hx=>Bt h hx);rw[e]at hs;have:([]:Bs)∈l:=by rw[<- hs];decide
 exact Sa h this rfl
theorem wK{l:List Bs}(h:okL l=true):cW (nameOf l)=l:=by
 unfold nameOf;split
 . rename_i e;subst e;rfl
 . rename_i e;unfold cW;rw[if_neg (Aq e h),qn l e (λx hx=>Bt h hx)]
theorem Oy{x:Bs}{t:List Bs}(h:okL (x::t)=true):okL t=true:=by
 simp only[okL,aH,decide_eq_true_eq,List.length_cons]at h ⊢;refine⟨by omega,?_⟩;cases t with
 |nil=>rfl
 |cons y t =>
  have:=h.2.2;simp only[List.all_cons,aH]at this;simp[this]
theorem yW{a l:List Bs}(hs:a <:+ l)(h:okL l=true):okL a=true:=by
 obtain⟨p,rfl⟩:=hs;induction p with
 |nil=>exact h
 |cons x p ih=>exact ih (Oy h)
theorem rY(p t:List Bs)(hp:p≠[])(ht:t≠[]):fh (p++t)=fh p++46::fh t:=by
 induction p with
 |nil=>exact absurd rfl hp
 |cons x p ih =>
  cases p with
  |nil=>simp only[List.singleton_append];rw[mW x t ht];rfl
  |cons y p=>rw[List.cons_append,mW _ _ (by simp),ih (by simp),mW x (y::p) (by simp)];simp
theorem EZ{a:List Bs}{s:Bs}(hs:a <:+ cW s)(h:bc s=true):bc (nameOf a)=true:=by
 have hok:=yW hs (vn h);rw[vl,wK hok,hok];by_cases e:a=[]
 . subst e;simp[nameOf]
 . obtain⟨p,hp⟩:=hs;have hl:(nameOf a).length<=60:=by
    have h60:=fH h;have hsne:cW s≠[]:=by rw[<- hp];simp[e]
    have e1:nameOf (cW s)=fh (cW s):=by simp[nameOf,hsne]
    rw[<- rB s,e1, <- hp]at h60;simp only[nameOf,e,if_false];by_cases hp0:p=[]
    . subst hp0;simpa using h60
    . rw[rY p a hp0 e]at h60;simp at h60;omega
   simp[hl]
/-! ### Parent,under,compare,common -/
def fR(s:Bs):Bs:=nameOf (cW s).tail
def bK(s z:Bs):Bool:=(cW z).isSuffixOf (cW s)
def bD(a b:Bs):Int:=cmpL (back a) (back b)
def lcp:List Bs->List Bs->List Bs
 |x::a,y::b=>if x=y then x::lcp a b else[]
 |_,_=>[]
def rU(a b:Bs):Bs:=nameOf (lcp (back a) (back b)).reverse
theorem lB(s z:Bs):bK s z=true ↔ back z <+: back s:=by
 rw[back_eq,back_eq,List.reverse_prefix];unfold bK;exact List.isSuffixOf_iff_suffix
theorem xk{a b:Bs}(h:back a=back b):a=b:=by
 rw[back_eq,back_eq]at h;exact xE (List.reverse_inj.1 h)
structure Datum where
 text:Bs
 n:Int
 m:Int
 deriving DecidableEq
structure ck where
 name:Bs
 type:Int
 life:Int
 data:List Datum
 deriving DecidableEq
structure Sig where
 zone:Bs
 key:Int
 alg:Int
 since:Int
 till:Int
 sum:Int
 deriving DecidableEq
structure Signed where
 set:ck
 sigs:List Sig
 deriving DecidableEq
structure aB where
 apex:Bs
 sets:List Signed
 deriving DecidableEq
structure dz where
 name:Bs
 type:Int
 deriving DecidableEq
structure xg where
 text:Int
 leastN:Int
 mostN:Int
 leastM:Int
 mostM:Int
 even:Bool
 single:Bool
 Kl:Bool
def sm(t:Int):xg :=
 if t=1 then⟨0,1,1000000,0,0,false,false,true⟩
 else if t=2 then⟨1,0,0,0,0,false,false,false⟩
 else if t=3 then⟨1,0,0,0,0,false,true,false⟩
 else if t=4 then⟨0,0,65535,0,100000,false,true,false⟩
 else if t=5 then⟨3,0,0,0,0,false,false,true⟩
 else if t=6 then⟨0,1,1000000,1,3,false,false,false⟩
 else if t=7 then⟨0,1,1000000,1,3,false,false,false⟩
 else if t=8 then⟨2,2,510,0,0,true,false,true⟩
 else⟨0,0,0,0,0,false,false,false⟩
def within(x lo hi:Int):Bool:=decide (lo<=x)&&decide (x<=hi)
def jO(s:Bs):Bool:=s.head? ==some 42
def gU(c:UInt8):Bool:=(97<=c&&c<=122)||(48<=c&&c<=57)||c==32
def cm(s:Bs):Bool:=decide (1<=s.length)&&decide (s.length<=40)&&(s.head? != some 32)&&(s.getLast? != some 32)&&s.all gU
def vm(k:Int)(t:Bs):Bool :=
 if k=1 then bc t&& !jO t else if k=2 then bc t else if k=3 then cm t else t==[]
def nn(r:xg)(d:Datum):Bool :=
 within d.n r.leastN r.mostN&&within d.m r.leastM r.mostM&&(!r.even||d.n.tmod 2==0)&&vm r.text d.text
def cR(a b:Int):Int:=if a<b then -1 else if b<a then 1 else 0
def eU(a b:Datum):Int :=
 if Go.Lib.compareBytes a.text b.text=0 then(if cR a.n b.n=0 then cR a.m b.m else cR a.n b.n)else Go.Lib.compareBytes a.text b.text
end NP
