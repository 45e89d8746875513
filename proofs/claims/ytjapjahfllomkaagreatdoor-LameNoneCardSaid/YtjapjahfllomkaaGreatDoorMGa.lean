/-
  Merged texts.
-/
import Derived.Test.YtjapjahfllomkaaGreatDoorMQrc
import Derived.Test.YtjapjahfllomkaaGreatDoorMLrc
set_option linter.all false
set_option maxRecDepth 100000
namespace NP
open NQ Go
structure dD where
 name:Bs
 addr:Int
 owner:Int
 deriving DecidableEq
structure ai where
 host:Int
 zone:aF
 deriving DecidableEq
structure ay where
 hosts:List dD
 zones:List ai
 anchor:gG
 hints:List Int
def dw(h:dD):List D:=[.str h.name,.int .i64 h.addr,.int .i64 h.owner]
def aN(p:ai):List D:=[.int .i64 p.host,.str p.zone.apex,.slice 5 (p.zone.sets.map az)]
def ba(w:ay):List D:=[.slice 3 (w.hosts.map dw),.slice 3 (w.zones.map aN),.str w.anchor.name,.int .i64 w.anchor.type,.int .i64 w.anchor.life,.slice 3 (w.anchor.data.map bt),.slice 1 (w.hints.map λn=>[.int .i64 n])]
def dF(f:ai->Bool):Nat->List ai->List (List D)
 |_,[]=>[]
 |i,p::t=>if f p=true then[.int .i64 i,.agg (aN p)]::dF f (i+1) t else dF f (i+1) t
theorem pT(f:ai->Bool):∀(i:Nat) (a b:List ai),dF f i (a++b)=dF f i a++dF f (i+a.length) b
 |i,[],b=>by simp[dF]
 |i,p::t,b=>by
  simp only[List.cons_append,dF];rw[pT f (i+1) t b];have:i+1+t.length=i+(p::t).length:=by simp;omega
  rw[this];split <;> rfl
theorem tD{f:ai->Bool}{l:List ai}{k:Nat}{p:ai}(h:l[k]? =some p):dF f 0 (l.take (k+1))=dF f 0 (l.take k)++(if f p=true then[[.int .i64 k,.agg (aN p)]]else[]):=by
 have hk:=(ar.1 h).1;rw[List.take_add_one,h,pT];have:(l.take k).length=k:=by simp;omega
 rw[this];simp[dF]
theorem Pp{f:ai->Bool}{l:List ai}{k:Nat}{p:ai}(h:l[k]? =some p)(hf:f p=true):(dF f 0 l)[(dF f 0 (l.take k)).length]? =some [.int .i64 k,.agg (aN p)]:=by
 have e:l=l.take (k+1)++l.drop (k+1):=(List.take_append_drop ..).symm;have h2:=pT f 0 (l.take (k+1)) (l.drop (k+1));rw[<- e]at h2;rw[h2,tD h,if_pos hf];simp
end NP
namespace Go.Proofs.YtjapjahfllomkaaGreatDoor
open NQ Go NP Go.RowKit
theorem DW(w:ay)(okf:FuncId)(x y:D)(f:ai->Bool)(hf:∀p∈w.zones,NQ.Fn cx okf [.agg (aN p),x,y] (.d (.bool (f p))) [])(hc:cx.chg okf=0)(hn:w.zones.length<=100000) :
 Lo cx 171 [.ptr (ba w),.ptr [.fn okf [] [x,y]]] (dF f 0 w.zones):=by
 refine rQ (fun|3=>[77777]|_=>[]) aO mixed Tryz.func171 (by kernel_rfl) rfl rfl (ah rfl) ?_
 conv=>whnf
 refine⟨rfl,?_⟩
 conv=>whnf
 refine⟨Nat,λk=>(((dF f 0 (w.zones.take k)).length,true),⟨[(1,.d (.ptr (ba w))),(2,.d (.ptr [.fn okf [] [x,y]])),(7,.d (.slice 3 (w.zones.map aN))),(8,.d (.int .i64 ((w.zones.map aN).length:Int))),(9,.d (.int .i64 k))],[]⟩),
  λk=>k<=w.zones.length,λk=>w.zones.length-k,⟨0,Nat.zero_le _,by simp[dF],aj.keep ⟨ab,ab,ab,ab,ab,trivial⟩ trivial⟩,λk hk=>?_⟩
 conv=>whnf
 refine⟨rfl,?_⟩
 conv=>whnf
 refine ae (λh1=>?_) (λh1=>?_) <;> (rw[h1];conv=>whnf)
 . obtain⟨p,hp⟩:∃p,w.zones[k]? =some p:=⟨_,ag (by simpa using h1)⟩
   have hkl:=(ar.1 hp).1;refine⟨rfl,?_⟩
   conv=>whnf
   refine⟨av k,aN p,aC hp,?_⟩
   conv=>whnf
   refine⟨rfl,?_⟩
   conv=>whnf
   refine⟨rfl,?_⟩
   conv=>whnf
   refine⟨rfl,?_⟩
   conv=>whnf
   try (rw[hc];conv=>whnf)
   (refine⟨_,_,hf p (aq hp),?_⟩;conv=>whnf)
   repeat' (first|(refine⟨rfl,?_⟩;conv=>whnf)|(refine ae (λh=>?_) (λh=>?_) <;> (rw[h];conv=>whnf)))
   . refine⟨_,_,⟨Pp hp h,rfl⟩,rfl,λb=>?_⟩
     conv=>whnf
     cases b with
     |true =>
      repeat' (first|(refine⟨rfl,?_⟩;conv=>whnf)|fail)
      refine⟨k+1,by show k+1<=_;omega,by show w.zones.length-(k+1)<w.zones.length-k;omega,?_,aj.keep ⟨ab,ab,ab,ab,⟨ao (by omega),rfl⟩,trivial⟩ trivial⟩;show((dF f 0 (List.take (k+1) w.zones)).length,true)=((dF f 0 (List.take k w.zones)).length+1,true)
      rw[tD hp,if_pos h];simp
     |false =>
      repeat' (first|(refine⟨rfl,?_⟩;conv=>whnf)|fail)
      exact⟨trivial,λh=>by cases h⟩
   . refine⟨k+1,by show k+1<=_;omega,by show w.zones.length-(k+1)<w.zones.length-k;omega,?_,aj.keep ⟨ab,ab,ab,ab,⟨ao (by omega),rfl⟩,trivial⟩ trivial⟩;show((dF f 0 (List.take (k+1) w.zones)).length,true)=((dF f 0 (List.take k w.zones)).length,true)
     rw[tD hp,if_neg (by rw[h];simp)];simp
 . refine⟨trivial,λ_=>?_⟩;obtain rfl:k=w.zones.length:=by simp at h1;omega
   simp
theorem LP(w:ay)(okf:FuncId)(caps:List D):NQ.Fn cx 93 [.agg (ba w),.fn okf [] caps] (.d (.fn 171 [] [.ptr (ba w),.ptr [.fn okf [] caps]])) []:=by
 refine cH (fun|1=>[2,3]|_=>[]) aO mixed Tryz.func93 (by kernel_rfl) rfl (ah rfl) ?_
 conv=>whnf
 exact af rfl rfl
theorem NS(s a:Bs):NQ.Fn cx 95 [.str s,.str a] (.d (.bool (bz s a).1)) []:=by
 refine aA aO mixed Tryz.func95 (by kernel_rfl) rfl (ah rfl) ?_;conv=>whnf
 (refine⟨_,_,pL s a,?_⟩;conv=>whnf)
 exact af rfl rfl
theorem Om(host:Int)(q:aV)(p:ai):NQ.Fn cx 152 [.agg (aN p),.ptr [.int .i64 host],.ptr (cS q)] (.d (.bool (decide (p.host=host)&&(bz q.name p.zone.apex).1))) []:=by
 refine aA aO mixed Tryz.func152 (by kernel_rfl) rfl (ah rfl) ?_;conv=>whnf
 repeat' (first|(refine⟨_,_,NS q.name p.zone.apex,?_⟩;conv=>whnf)|(refine ae (λh=>?_) (λh=>?_) <;> (rw[h];conv=>whnf))|fail)
 all_goals (refine af rfl ?_;show AV.d (D.bool _)=AV.d (D.bool _);congr 2;simp_all;done)
end Go.Proofs.YtjapjahfllomkaaGreatDoor
namespace NP
open NQ Go
def gD(s:Bs):Int:=((dH s).1.length:Int)
end NP
namespace Go.Proofs.YtjapjahfllomkaaGreatDoor
open NQ Go NP Go.RowKit
theorem CJ(s:Bs):NQ.Fn cx 96 [.str s] (.d (.int .i64 (gD s))) []:=by
 refine aA aO mixed Tryz.func96 (by kernel_rfl) rfl (ah rfl) ?_;conv=>whnf
 (refine⟨_,_,uv s,?_⟩;conv=>whnf)
 refine af rfl ?_;show AV.d (.int .i64 (((dH s).1.map aP).length:Int))=_
 rw[ak];rfl
end Go.Proofs.YtjapjahfllomkaaGreatDoor
namespace NP
open NQ Go
def Ms(s:Bs):List ai->Bs×Int->Bs×Int
 |[],b=>b
 |p::t,b=>Ms s t (if (bz s p.zone.apex).1=true/\b.2<gD p.zone.apex then(p.zone.apex,gD p.zone.apex)else b)
theorem tB(f:ai->Bool):∀(i:Nat) (l:List ai) (k:Nat) (x:List D),(dF f i l)[k]? =some x-> ∃j p,x=[.int .i64 (j:Nat),.agg (aN p)]/\(l.filter f)[k]? =some p
 |i,[],k,x,h=>by simp[dF]at h
 |i,p::t,k,x,h=>by
  unfold dF at h;by_cases hp:f p=true
  . rw[if_pos hp]at h;rw[List.filter_cons_of_pos hp];cases k with
    |zero=>cases h;exact⟨i,p,rfl,rfl⟩
    |succ k=>exact tB f (i+1) t k x (by simpa using h)
  . rw[if_neg hp]at h;rw[List.filter_cons_of_neg hp];exact tB f (i+1) t k x h
theorem Mo(f:ai->Bool)(i:Nat)(l:List ai)(x:List D)(h:x∈dF f i l):x.length=2:=by
 obtain⟨k,hk⟩:=cm h;obtain⟨j,p,rfl,_⟩:=tB f i l k x hk;rfl
theorem tC(f:ai->Bool):∀(i:Nat) (l:List ai),(dF f i l).length=(l.filter f).length
 |i,[]=>rfl
 |i,p::t=>by
  unfold dF;by_cases hp:f p=true
  . rw[if_pos hp,List.filter_cons_of_pos hp,List.length_cons,List.length_cons,tC f (i+1) t]
  . rw[if_neg hp,List.filter_cons_of_neg hp,tC f (i+1) t]
def hAt(s:Bs)(w:ay)(k:Nat):Bs×Int:=Ms s ((w.zones.filter λp=>(bz s p.zone.apex).1).take k) ([], -1)
end NP
namespace Go.Proofs.YtjapjahfllomkaaGreatDoor
open NQ Go NP Go.RowKit
theorem PJ(p q:ai):NQ.Fn cx 196 [.agg (aN p),.agg (aN q)] (.d (.bool (decide ((dY p.zone).1>(dY q.zone).1)||(decide ((dY p.zone).1=(dY q.zone).1)&&decide (p.host<q.host))))) []:=by
 refine aA aO mixed Tryz.func196 (by kernel_rfl) rfl (ah rfl) ?_;conv=>whnf
 (refine⟨_,_,Cs p.zone,?_⟩;conv=>whnf)
 (refine⟨_,_,Cs q.zone,?_⟩;conv=>whnf)
 repeat' (first|(refine ae (λh=>?_) (λh=>?_) <;> (rw[h];conv=>whnf))|fail)
 all_goals (refine af rfl ?_;show AV.d (D.bool _)=AV.d (D.bool _);congr 2 <;> simp_all)
end Go.Proofs.YtjapjahfllomkaaGreatDoor
namespace NP
open NQ Go
def fM(n:Int):Bool:=decide (n>=1)&&decide (n<=1000000)
def uh(s:Bs):Bool:=(dH s).1.head? ==some [42]
theorem QF{s:Bs}(h:au s=true):uh s=fm s:=by
 rw[CL h];unfold uh dH;rw[if_pos h]
def AP(l:List Int):List (List D×D):=l.map λa=>([.tuple [.int .i64 a]],.bool true)
theorem uE(a:Int):∀l:List Int,eS (.int .i64 a) (AP l)=some (if l.contains a=true then some (.bool true)else none)
 |[]=>rfl
 |x::l=>by
  show(match eK (.int .i64 a) [.tuple [.int .i64 x]]with|some true=>_|some false=>eS (.int .i64 a) (AP l)|none=>none)=_
  have:eK (.int .i64 a) [.tuple [.int .i64 x]]=some (a==x):=by simp[eK]
  rw[this];cases h:(a==x)with
  | true => have e : a = x := by simpa using h
            subst e;simp
  |false=>simp only[List.contains_cons,h,dK];exact uE a l
theorem Og{a:Int}{l:List Int}(h:l.contains a=false):qZ (.int .i64 a) (.bool true) (AP l)=some (AP (l++[a])):=by
 rw[KP (by rw[uE,h];rfl)];simp[AP]
def iA:List Int->List dD->Bool
 |_,[]=>true
 |seen,h::t=> !(!au h.name||uh h.name||decide (h.owner<0)||decide (h.owner>=32))&& !(!fM h.addr||seen.contains h.addr)&&iA (seen++[h.addr]) t
def kE(l:List dD):Bool:=decide ((l.length:Int)<=64)&&iA [] l
theorem zM{l:List dD}{k:Nat}{h:dD}(hh:l[k]? =some h)(seen:List Int):iA seen (l.drop k)=(!(!au h.name||uh h.name||decide (h.owner<0)||decide (h.owner>=32))&& !(!fM h.addr||seen.contains h.addr)&&iA (seen++[h.addr]) (l.drop (k+1))):=by
 rw[drop_cons hh];rfl
def nV(s:gG)(hints:List Int):Bool:=dP s&&(s.type==6)&&(s.name==[46])&&decide ((hints.length:Int)>=1)&&decide ((hints.length:Int)<=8)&&hints.all fM
end NP
namespace Go.Proofs.YtjapjahfllomkaaGreatDoor
open NQ Go NP Go.RowKit
theorem CK(q:aV):NQ.Fn cx 123 [.agg (cS q)] (.d (.bool (bK q))) []:=by
 refine aA aO mixed Tryz.func123 (by kernel_rfl) rfl (ah rfl) ?_;conv=>whnf
 (refine⟨_,_,jo q.name,?_⟩;conv=>whnf)
 repeat' (first|(refine ae (λh=>?_) (λh=>?_) <;> (rw[h];conv=>whnf))|(refine af rfl ?_;show AV.d (D.bool false)=_;(try simp only[ak]at *);simp only[bK, *, if_true,if_false,aD];done)|(refine af rfl ?_;show AV.d (D.bool true)=_;(try simp only[ak]at *);simp only[bK, *, if_true,if_false,aD];done)|fail)
 all_goals (refine af rfl ?_;show AV.d (D.bool _)=AV.d (D.bool _);congr 2;simp_all [bK])
theorem Ga(n:Int):NQ.Fn cx 174 [.int .i64 n] (.d (.bool (fM n))) []:=by
 refine aA aO mixed Tryz.func174 (by kernel_rfl) rfl (ah rfl) ?_;conv=>whnf
 repeat' (first|(refine ae (λh=>?_) (λh=>?_) <;> (rw[h];conv=>whnf))|fail)
 all_goals (refine af rfl ?_;show AV.d (D.bool _)=AV.d (D.bool _);congr 2;unfold fM;simp only[*, if_true,if_false,aD])
theorem QD(n:Int):NQ.Fn cx 176 [.int .i64 n] (.d (.bool (!fM n))) []:=by
 refine aA aO mixed Tryz.func176 (by kernel_rfl) rfl (ah rfl) ?_;conv=>whnf
 (refine⟨_,_,Ga n,?_⟩;conv=>whnf)
 exact af rfl rfl
theorem QE(s:Bs):NQ.Fn cx 173 [.str s] (.d (.bool (uh s))) []:=by
 refine aA aO mixed Tryz.func173 (by kernel_rfl) rfl (ah rfl) ?_;conv=>whnf
 (refine⟨_,_,uv s,?_⟩;conv=>whnf)
 (refine ae (λh=>?_) (λh=>?_) <;> (rw[h];conv=>whnf))
 . cases hl:(dH s).1 with
   |nil=>rw[hl]at h;simp at h
   |cons x t =>
    refine⟨by decide,aP x,rfl,?_⟩
    conv=>whnf
    refine af rfl ?_;show AV.d (D.bool _)=AV.d (D.bool _)
    congr 2
    unfold uh;rw[hl];simp
 . refine af rfl ?_;show AV.d (D.bool _)=AV.d (D.bool _)
   congr 2
   unfold uh;cases hl:(dH s).1 with
   |nil=>rfl
   |cons x t=>rw[hl]at h;simp at h
theorem Mv(l:List Int)(p:Int->Bool)(hn:l.length<=100000)(hf:∀s∈l,NQ.Fn cx 176 [.int .i64 s] (.d (.bool (p s))) []) :
 NQ.Fn cx 106 [.slice 1 (l.map bd),.fn 176 [] []] (.d (.int .i64 (match l.findIdx? p with|some k=>(k:Int)|none=> -1))) []:=by
 refine aA aO mixed Tryz.func106 (by kernel_rfl) rfl (ah rfl) ?_;conv=>whnf
 refine⟨Nat,λk=>⟨[(0,.d (.slice 1 (l.map bd))),(1,.d (.fn 176 [] [])),(6,.d (.slice 1 (l.map bd))),(7,.d (.int .i64 ((l.map bd).length:Int))),(8,.d (.int .i64 k))],[]⟩,λk=>k<=l.length/\ ∀j y,j<k->l[j]? =some y->p y=false,λk=>l.length-k,
  ⟨0,⟨by omega,λj y h=>by omega⟩,aj.keep ⟨ab,ab,ab,ab,ab,trivial⟩ trivial⟩,λk hk=>?_⟩
 obtain⟨hk,hall⟩:=hk
 conv=>whnf
 refine ae (λh1=>?_) (λh1=>?_) <;> (rw[h1];conv=>whnf)
 . have hlt:k<l.length:=by simp at h1;omega
   obtain⟨s,hs⟩:∃s,l[k]? =some s:=⟨_,ag hlt⟩
   refine⟨av k,bd s,aC hs,?_⟩
   conv=>whnf
   (refine⟨_,_,hf s (aq hs),?_⟩;conv=>whnf)
   refine ae (λh2=>?_) (λh2=>?_) <;> (rw[h2];conv=>whnf)
   . refine af rfl ?_;have:l.findIdx? p=some k:=by
      rw[List.findIdx?_eq_some_iff_getElem];obtain⟨g1,g2⟩:=ar.1 hs;refine⟨g1,by rw[g2];exact h2,λj hj=>?_⟩;have:=hall j (l[j]) hj (ag (by omega));rw[this];decide
     rw[this];rfl
   . refine⟨k+1,⟨hlt,λj y hj hy=>?_⟩,by(show l.length-(k+1)<l.length-k;omega),aj.keep ⟨ab,ab,ab,ab,⟨ao (by omega),rfl⟩,trivial⟩ trivial⟩;rcases Nat.lt_succ_iff_lt_or_eq.1 hj with hj|rfl
     . exact hall j y hj hy
     . rw[hs]at hy;cases hy;exact h2
 . obtain rfl:k=l.length:=by simp at h1;omega
   refine af rfl ?_;have:l.findIdx? p=none:=by
    rw[List.findIdx?_eq_none_iff];intro x hx;obtain⟨i,hi⟩:=cm hx;exact hall i x (ar.1 hi).1 hi
   rw[this];rfl
theorem Rn(h:dD)(a:Int):NQ.Fn cx 151 [.agg (dw h),.ptr [.int .i64 a]] (.d (.bool (h.addr==a))) []:=by
 refine aA aO mixed Tryz.func151 (by kernel_rfl) rfl (ah rfl) ?_;conv=>whnf
 exact af rfl rfl
theorem JV(l:List dD)(p:dD->Bool)(x:D)(hn:l.length<=100000)(hf:∀s∈l,NQ.Fn cx 151 [.agg (dw s),x] (.d (.bool (p s))) []) :
 NQ.Fn cx 150 [.slice 3 (l.map dw),.fn 151 [] [x]] (.d (.int .i64 (match l.findIdx? p with|some k=>(k:Int)|none=> -1))) []:=by
 refine aA aO mixed Tryz.func150 (by kernel_rfl) rfl (ah rfl) ?_;conv=>whnf
 refine⟨Nat,λk=>⟨[(0,.d (.slice 3 (l.map dw))),(1,.d (.fn 151 [] [x])),(7,.d (.int .i64 ((l.map dw).length:Int))),(8,.d (.int .i64 k))],[]⟩,λk=>k<=l.length/\ ∀j y,j<k->l[j]? =some y->p y=false,λk=>l.length-k,
  ⟨0,⟨by omega,λj y h=>by omega⟩,aj.keep ⟨ab,ab,ab,ab,trivial⟩ trivial⟩,λk hk=>?_⟩
 obtain⟨hk,hall⟩:=hk
 conv=>whnf
 refine ae (λh1=>?_) (λh1=>?_) <;> (rw[h1];conv=>whnf)
 . have hlt:k<l.length:=by simp at h1;omega
   obtain⟨s,hs⟩:∃s,l[k]? =some s:=⟨_,ag hlt⟩
   refine⟨av k,dw s,aC hs,?_⟩
   conv=>whnf
   (refine⟨_,_,hf s (aq hs),?_⟩;conv=>whnf)
   refine ae (λh2=>?_) (λh2=>?_) <;> (rw[h2];conv=>whnf)
   . refine af rfl ?_;have:l.findIdx? p=some k:=by
      rw[List.findIdx?_eq_some_iff_getElem];obtain⟨g1,g2⟩:=ar.1 hs;refine⟨g1,by rw[g2];exact h2,λj hj=>?_⟩;have:=hall j (l[j]) hj (ag (by omega));rw[this];decide
     rw[this];rfl
   . refine⟨k+1,⟨hlt,λj y hj hy=>?_⟩,by(show l.length-(k+1)<l.length-k;omega),aj.keep ⟨ab,ab,ab,⟨ao (by omega),rfl⟩,trivial⟩ trivial⟩;rcases Nat.lt_succ_iff_lt_or_eq.1 hj with hj|rfl
     . exact hall j y hj hy
     . rw[hs]at hy;cases hy;exact h2
 . obtain rfl:k=l.length:=by simp at h1;omega
   refine af rfl ?_;have:l.findIdx? p=none:=by
    rw[List.findIdx?_eq_none_iff];intro x hx;obtain⟨i,hi⟩:=cm hx;exact hall i x (ar.1 hi).1 hi
   rw[this];rfl
theorem Gb(l:List Int)(hl:l.length<=100000):NQ.Fn cx 50 [.slice 1 (l.map bd),.fn 176 [] []] (.d (.bool (!l.all fM))) []:=by
 refine aA aO mixed Tryz.func50 (by kernel_rfl) rfl (ah rfl) ?_;conv=>whnf
 (refine⟨_,_,Mv l (λn=> !fM n) hl (λs _=>QD s),?_⟩;conv=>whnf)
 refine af rfl ?_;show AV.d (D.bool (decide ((match l.findIdx? (λn=> !fM n)with|some k=>(k:Int)|none=> -1)>=0)))=_
 congr 2
 cases h:l.findIdx? (λn=> !fM n)with
 |some k =>
  obtain⟨h1,h2,_⟩:=List.findIdx?_eq_some_iff_getElem.1 h;rw[decide_eq_true (av k)];have:l.all fM=false:=by
   rw[<- Bool.not_eq_true,ax];intro hall;rw[hall _ (List.getElem_mem h1)]at h2;cases h2
  rw[this];rfl
 |none =>
  have:l.all fM=true:=by
   rw[ax];intro x hx;have:=List.findIdx?_eq_none_iff.1 h x hx;simpa using this
  rw[this];rfl
theorem FU(s:gG)(hints:List Int)(hl:hints.length<=100000):NQ.Fn cx 100 [.agg (mV s),.slice 1 (hints.map bd)] (.d (.bool (nV s hints))) []:=by
 refine aA aO mixed Tryz.func100 (by kernel_rfl) rfl (ah rfl) ?_;conv=>whnf
 (refine⟨_,_,xx s,?_⟩;conv=>whnf)
 repeat' (first|(refine ae (λh=>?_) (λh=>?_) <;> (rw[h];conv=>whnf))|fail)
 all_goals first
  |(refine af rfl ?_;show AV.d (D.bool false)=_;(try simp only[ak]at *);unfold nV;simp_all;done)
  |skip
 all_goals first
  | ((refine ⟨_, _, Gb hints hl, ?_⟩; conv => whnf)
     refine af rfl ?_;show AV.d (D.bool _)=AV.d (D.bool _)
     congr 2
     (try simp only[ak]at *)
     unfold nV
     simp_all;done)
  |(refine af rfl ?_;show AV.d (D.bool false)=_;(try simp only[ak]at *);unfold nV;simp_all;omega)
theorem Df(l:List dD)(hl:l.length<=100000):NQ.Fn cx 98 [.slice 3 (l.map dw)] (.d (.bool (kE l))) []:=by
 refine aA aO mixed Tryz.func98 (by kernel_rfl) rfl (ah rfl) ?_;conv=>whnf
 rw[ak];refine ae (λh=>?_) (λh=>?_) <;> (rw[h];conv=>whnf)
 . refine af rfl ?_;show AV.d (D.bool _)=AV.d (D.bool _)
   congr 2
   unfold kE;simp at h;simp;omega
 have hle:kE l=iA [] l:=by unfold kE;simp at h;simp;omega
 rw[hle];refine⟨Nat,λk=>⟨[(10,.d (.slice 3 (l.map dw))),(11,.d (.int .i64 ((l.map dw).length:Int))),(12,.d (.int .i64 k)),(3,.omap 9)],[(9,.kmap (AP ((l.take k).map (·.addr))))]⟩,λk=>k<=l.length/\iA ((l.take k).map (·.addr)) (l.drop k)=iA [] l,λk=>l.length-k,
  ⟨0,⟨Nat.zero_le _,rfl⟩,aj.keep ⟨ab,ab,ab,ab,trivial⟩ ⟨ab,trivial⟩⟩,λk ⟨hk,hinv⟩=>?_⟩
 conv=>whnf
 refine ae (λh1=>?_) (λh1=>?_) <;> (rw[h1];conv=>whnf)
 . have hlt:k<l.length:=by simpa using h1
   obtain⟨x,hx⟩:∃x,l[k]? =some x:=⟨_,ag hlt⟩
   rw[zM hx]at hinv;refine⟨av k,dw x,aC hx,?_⟩
   conv=>whnf
   repeat' (first|(refine⟨_,_,jo x.name,?_⟩;conv=>whnf)|(refine⟨_,_,QE x.name,?_⟩;conv=>whnf)|(refine⟨_,_,Ga x.addr,?_⟩;conv=>whnf)|(refine ae (λh=>?_) (λh=>?_) <;> (rw[h];conv=>whnf))|(refine⟨_,uE x.addr _,?_⟩;cases hc:((l.take k).map (·.addr)).contains x.addr <;> (conv=>whnf))|fail)
   all_goals first
    |(refine af rfl ?_;show AV.d (D.bool false)=AV.d (D.bool _);rw[<- hinv];simp_all;done)
    | (refine ⟨_, Og hc, ?_⟩
       conv=>whnf
       refine⟨k+1,⟨hlt,?_⟩,by(show l.length-(k+1)<l.length-k;omega),aj.keep ⟨ab,ab,⟨ao (by omega),rfl⟩,ab,trivial⟩ ⟨⟨?_,rfl⟩,trivial⟩⟩
       . rw[bg hx,List.map_append];rw[<- hinv];simp_all
       . rw[bg hx,List.map_append];rfl)
 . obtain rfl:k=l.length:=by simp at h1;omega
   refine af rfl ?_;rw[<- hinv,List.drop_length];rfl
end Go.Proofs.YtjapjahfllomkaaGreatDoor
namespace NP
open NQ Go
def pmap(l:List ai):List (List D×D):=l.map λp=>([.int .i64 p.host,.str p.zone.apex],.bool true)
def cr(p x:ai):Bool:=(p.host==x.host)&&(p.zone.apex==x.zone.apex)
theorem vK(p:ai):∀l:List ai,kG [.int .i64,.str] [.int .i64 p.host,.str p.zone.apex] (pmap l)=some (if l.any (cr p)=true then some (.bool true)else none)
 |[]=>rfl
 |x::l=>by
  show(match cq [.int .i64,.str] [.d (.int .i64 p.host),.d (.str p.zone.apex)] [.d (.int .i64 x.host),.d (.str x.zone.apex)]with|some true=>_|some false=>kG _ _ (pmap l)|none=>none)=_
  have:cq [.int .i64,.str] [.d (.int .i64 p.host),.d (.str p.zone.apex)] [.d (.int .i64 x.host),.d (.str x.zone.apex)]=some (cr p x):=by
   show some ((p.host==x.host)&&((p.zone.apex==x.zone.apex)&&true))=_
   rw[gj];rfl
  rw[this,List.any_cons];cases h:cr p x with
  |true=>simp
  |false=>simp only[dK];exact vK p l
theorem PT{p:ai}{l:List ai}(h:l.any (cr p)=false):mO [.int .i64,.str] [.int .i64 p.host,.str p.zone.apex] (.bool true) (pmap l)=some (pmap (l++[p])):=by
 rw[zR (by rw[vK,h];rfl)];simp[pmap]
def apx(l:List ai):List (Bs×D):=l.foldl (λm p=>dG p.zone.apex (.bool true) m) []
theorem Ol(l:List ai)(p:ai):apx (l++[p])=dG p.zone.apex (.bool true) (apx l):=by unfold apx;rw[List.foldl_append];rfl
def dx(n:Nat):List ai->List ai->Bool
 |_,[]=>true
 |seen,p::t=> !(decide (p.host<0)||decide (p.host>=(n:Int))||seen.any (cr p)|| !aY p.zone)&&dx n (seen++[p]) t
def iX(w:ay):Bool:=decide ((w.zones.length:Int)<=4000)&&dx w.hosts.length [] w.zones&&decide (((apx w.zones).length:Int)<=500)
theorem xf{n:Nat}{l:List ai}{k:Nat}{p:ai}(hp:l[k]? =some p)(seen:List ai):dx n seen (l.drop k)=(!(decide (p.host<0)||decide (p.host>=(n:Int))||seen.any (cr p)|| !aY p.zone)&&dx n (seen++[p]) (l.drop (k+1))):=by
 rw[drop_cons hp];rfl
def aK(w:ay):Bool:=kE w.hosts&&iX w&&nV w.anchor w.hints
end NP
namespace Go.Proofs.YtjapjahfllomkaaGreatDoor
open NQ Go NP Go.RowKit
theorem BF(w:ay)(hl:w.zones.length<=100000):NQ.Fn cx 99 [.agg (ba w)] (.d (.bool (iX w))) []:=by
 refine aA aO mixed Tryz.func99 (by kernel_rfl) rfl (ah rfl) ?_;conv=>whnf
 rw[ak];refine ae (λh=>?_) (λh=>?_) <;> (rw[h];conv=>whnf)
 . refine af rfl ?_;show AV.d (D.bool _)=AV.d (D.bool _)
   congr 2
   unfold iX;simp at h;simp;omega
 have hle:iX w=(dx w.hosts.length [] w.zones&&decide (((apx w.zones).length:Int)<=500)):=by
  have:decide ((w.zones.length:Int)<=4000)=true:=by simp at h ⊢;omega
  unfold iX;rw[this,dC]
 rw[hle];refine⟨Nat,λk=>⟨[(1,.ptr 1 0),(15,.d (.slice 3 (w.zones.map aN))),(16,.d (.int .i64 ((w.zones.map aN).length:Int))),(17,.d (.int .i64 k)),(3,.omap 12),(4,.omap 13)],[(1,.box ((ba w).map .d)),(12,.kmap (pmap (w.zones.take k))),(13,.smap (apx (w.zones.take k)))]⟩,λk=>k<=w.zones.length/\dx w.hosts.length (w.zones.take k) (w.zones.drop k)=dx w.hosts.length [] w.zones,λk=>w.zones.length-k,
  ⟨0,⟨Nat.zero_le _,rfl⟩,aj.keep ⟨ab,ab,ab,ab,ab,ab,trivial⟩ ⟨ab,ab,ab,trivial⟩⟩,λk ⟨hk,hinv⟩=>?_⟩
 conv=>whnf
 refine ae (λh1=>?_) (λh1=>?_) <;> (rw[h1];conv=>whnf)
 . have hlt:k<w.zones.length:=by simpa using h1
   obtain⟨x,hx⟩:∃x,w.zones[k]? =some x:=⟨_,ag hlt⟩
   rw[xf hx]at hinv;refine⟨av k,aN x,aC hx,?_⟩
   conv=>whnf
   repeat' (first|(refine⟨_,_,rn x.zone,?_⟩;conv=>whnf)|(refine ae (λh=>?_) (λh=>?_) <;> (rw[h];conv=>whnf))|(refine⟨_,vK x _,?_⟩;cases hc:(w.zones.take k).any (cr x) <;> (conv=>whnf))|fail)
   all_goals first
    |(refine af rfl ?_;show AV.d (D.bool false)=AV.d (D.bool _);rw[<- hinv];clear hinv hle;(try simp only[ak]at *);simp only[*, if_true,if_false,aD];done)
    | (refine ⟨_, PT hc, ?_⟩
       conv=>whnf
       refine⟨k+1,⟨hlt,?_⟩,by(show w.zones.length-(k+1)<w.zones.length-k;omega),aj.keep ⟨ab,ab,ab,⟨ao (by omega),rfl⟩,ab,ab,trivial⟩ ⟨ab,⟨?_,rfl⟩,⟨?_,rfl⟩,trivial⟩⟩
       . rw[bg hx];rw[<- hinv];clear hinv hle;(try simp only[ak]at *);simp only[*, if_true,if_false,aD]
       . rw[bg hx];rfl
       . rw[bg hx,Ol];rfl)
 . obtain rfl:k=w.zones.length:=by simp at h1;omega
   refine af rfl ?_;rw[<- hinv,List.drop_length,List.take_length];rfl
theorem wi(w:ay)(h1:w.hosts.length<=100000)(h2:w.zones.length<=100000)(h3:w.hints.length<=100000):NQ.Fn cx 43 [.agg (ba w)] (.d (.bool (aK w))) []:=by
 refine aA aO mixed Tryz.func43 (by kernel_rfl) rfl (ah rfl) ?_;conv=>whnf
 (refine⟨_,_,Df w.hosts h1,?_⟩;conv=>whnf)
 refine ae (λh=>?_) (λh=>?_) <;> (rw[h];conv=>whnf)
 . (refine⟨_,_,BF w h2,?_⟩;conv=>whnf)
   refine ae (λh' =>?_) (λh' =>?_) <;> (rw[h'];conv=>whnf)
   . (refine⟨_,_,FU w.anchor w.hints h3,?_⟩;conv=>whnf)
     refine af rfl ?_;unfold aK;rw[h,h'];rfl
   . refine af rfl ?_;unfold aK;rw[h,h'];rfl
 . refine af rfl ?_;unfold aK;rw[h];rfl
end Go.Proofs.YtjapjahfllomkaaGreatDoor
namespace NP
open NQ Go
def fR(a:Bs):List (Bs×Nat)->Option Nat
 |[]=>none
 |(b,i)::t=>if a=b then some i else fR a t
def nJ(a:Bs)(i:Nat):List (Bs×Nat)->List (Bs×Nat)
 |[]=>[(a,i)]
 |(b,j)::t=>if a=b then(b,i)::t else(b,j)::nJ a i t
def pV(m:List (Bs×Nat)):List (Bs×D):=m.map λp=>(p.1,.int .i64 (p.2:Int))
theorem EG(a:Bs):∀m,cJ a (pV m)=(fR a m).map λi=>D.int .i64 (i:Int)
 |[]=>rfl
 |(b,i)::t=>by
  show(if a=b then _ else cJ a (pV t))=_
  unfold fR;split
  . rfl
  . exact EG a t
theorem Bf(a:Bs)(i:Nat):∀m,dG a (.int .i64 (i:Int)) (pV m)=pV (nJ a i m)
 |[]=>rfl
 |(b,j)::t=>by
  show(if a=b then _ else _::dG a _ (pV t))=_
  unfold nJ;split
  . rfl
  . rw[Bf a i t];rfl
theorem Io(a:Bs):∀m,eS (.str a) ((pV m).map cK)=some ((fR a m).map λi=>D.int .i64 (i:Int))
 |[]=>rfl
 |(b,i)::t=>by
  show(match eK (.str a) [.tuple [.str b]]with|some true=>_|some false=>eS (.str a) ((pV t).map cK)|none=>none)=_
  have:eK (.str a) [.tuple [.str b]]=some (a==b):=rfl;rw[this];unfold fR;by_cases h:a=b
  . subst h;simp
  . have:(a==b)=false:=by simp[h]
    rw[this,if_neg h];exact Io a t
theorem oG(a b:Bs)(i:Nat):∀m,fR b (nJ a i m)=if a=b then some i else fR b m
 |[]=>by
  simp only[nJ,fR];by_cases h:a=b
  . rw[if_pos h.symm,if_pos h]
  . rw[if_neg (Ne.symm h),if_neg h]
 |(c,j)::t=>by
  unfold nJ;by_cases hc:a=c
  . rw[if_pos hc];subst hc;unfold fR;by_cases h:b=a
    . rw[if_pos h,if_pos h.symm]
    . rw[if_neg h,if_neg h,if_neg (Ne.symm h)]
  . rw[if_neg hc];unfold fR;by_cases h:b=c
    . rw[if_pos h,if_pos h,if_neg (λe=>hc (e.trans h))]
    . rw[if_neg h,if_neg h];exact oG a b i t
def dO(p q:ai):Bool:=decide ((dY p.zone).1>(dY q.zone).1)||(decide ((dY p.zone).1=(dY q.zone).1)&&decide (p.host<q.host))
def iO(zs:List ai)(m:List (Bs×Nat))(p:ai):Bool:=match fR p.zone.apex m with
 |none=>true
 |some j=>(match zs[j]? with|some q=>dO p q|none=>false)
def lN(zs:List ai):Nat->List ai->List (Bs×Nat)->List (Bs×Nat)
 |_,[],m=>m
 |i,p::t,m=>lN zs (i+1) t (if iO zs m p=true then nJ p.zone.apex i m else m)
def gi(zs:List ai):List (Bs×Nat):=lN zs 0 zs []
theorem NA{zs l:List ai}{k:Nat}{p:ai}(hp:l[k]? =some p)(m:List (Bs×Nat)):lN zs k (l.drop k) m=lN zs (k+1) (l.drop (k+1)) (if iO zs m p=true then nJ p.zone.apex k m else m):=by
 rw[drop_cons hp];rfl
def iU(zs:List ai)(m:List (Bs×Nat)):Prop:= ∀a j,fR a m=some j-> ∃p,zs[j]? =some p/\p.zone.apex=a
theorem iU.put{zs:List ai}{m:List (Bs×Nat)}(h:iU zs m){i:Nat}{p:ai}(hp:zs[i]? =some p):iU zs (nJ p.zone.apex i m):=by
 intro a j hj;rw[oG]at hj;split at hj
 . cases hj;exact⟨p,hp,by assumption⟩
 . exact h a j hj
theorem iU.go{zs:List ai}:∀(l:List ai) (i:Nat) (m:List (Bs×Nat)),(∀j,l[j]? =zs[i+j]?)->iU zs m->iU zs (lN zs i l m)
 |[],i,m,_,h=>h
 |p::t,i,m,hl,h=>by
  unfold lN;refine iU.go t (i+1) _ (λj=>by have:=hl (j+1);simp at this;rw[this];congr 1;omega) ?_;split
  . exact h.put (by have:=hl 0;simpa using this.symm)
  . exact h
theorem wb(zs:List ai):iU zs (gi zs):=iU.go zs 0 [] (λj=>by rw[Nat.zero_add]) (λa j h=>by cases h)
def Dv(w:ay)(m:List (Bs×Nat)):List D:=ba w++[.kmap ((pV m).map cK)]
def jf(zs:List ai)(m:List (Bs×Nat))(q:aV):Nat->Bs->Ans×Bool
 |0,_=>(iV,false)
 |f+1,a=>match fR a m with
  |none=>(iV,false)
  |some i=>(match zs[i]? with
   |some p=>if ((cu p.zone q).1.kind != 4)=true then((cu p.zone q).1,true)else jf zs m q f (cu p.zone q).1.cut
   |none=>(iV,false))
def mC(zs:List ai):Prop:= ∀p∈zs,iv p.zone=true/\aY p.zone=true
theorem vM{z:aF}{q:aV}(u:Use z q)(hk:((cu z q).1.kind != 4)=false):aH q.name (cu z q).1.cut=true/\(back z.apex).length<(back (cu z q).1.cut).length/\au (cu z q).1.cut=true/\(cu z q).1.cut∈cv z.apex z.sets:=by
 cases hr:fh (vw z q)with
 |false =>
  have:=(u.Si hr).1;simp only[bne,this]at hk;cases hk
 |true =>
  obtain⟨s0,R,h1,h2,h3,_⟩:=u.Ui hr;rw[h3];have hne:bU z q.name≠[]:=by intro e;rw[yU,e]at hr;cases hr
  have hcut:bU z q.name∈cv z.apex z.sets/\aH q.name (bU z q.name)=true:=by
   unfold bU at hne ⊢;cases hf:(cv z.apex z.sets).find? λc=>aH q.name c with
   |none=>rw[hf]at hne;exact absurd rfl hne
   |some c=>exact⟨List.mem_of_find?_eq_some hf,by have:=List.find?_some hf;simpa using this⟩
  obtain⟨hc,hu⟩:=hcut;have ho:=u.ord;obtain⟨s,hs,hi,he⟩:=(kx z.apex _ z.sets).1 hc;have hua:=ho.under s hs;have hsv:=ho.name s hs;unfold bz at hua;rw[if_pos ⟨hsv,ho.apex⟩,he]at hua;refine⟨hu,?_,he ▸ hsv,hc⟩;have hpre:=(dE _ _).1 hua;have hle:=hpre.length_le;rcases Nat.lt_or_ge (back z.apex).length (back (bU z q.name)).length with h|h
  . exact h
  . have e:back z.apex=back (bU z q.name):=hpre.eq_of_length (by omega);have:bU z q.name=z.apex:=ng hua ((dE _ _).2 (by rw[e];exact List.prefix_rfl));unfold dj at hi;rw[he,this]at hi;simp at hi
end NP
namespace Go.Proofs.YtjapjahfllomkaaGreatDoor
open NQ Go NP Go.RowKit
theorem Ki(w:ay)(hl:w.zones.length<=100000):NQ.Fn cx 124 [.agg (ba w)] (.agg ((Dv w (gi w.zones)).map .d)) []:=by
 refine cH (fun|9=>[9]|_=>[]) aO mixed Tryz.func124 (by kernel_rfl) rfl (ah rfl) ?_
 conv=>whnf
 refine ⟨Nat × List (Bs × Nat), fun x => ⟨[(2, .ptr 2 0), (3, .ptr 3 0), (13, .d (.slice 3 (w.zones.map aN))), (14, .d (.int .i64 ((w.zones.map aN).length : Int))), (15, .d (.int .i64 x.1))],
     [(2,.box [.nil 3,.nil 3,.d (.str []),.d (.int .i64 0),.d (.int .i64 0),.nil 3,.nil 1,.d .nmap]),(3,.box ((ba w).map .d++[.omap 9])),(9,.smap (pV x.2))]⟩,
  λx=>x.1<=w.zones.length/\iU w.zones x.2/\lN w.zones x.1 (w.zones.drop x.1) x.2=gi w.zones,λx=>w.zones.length-x.1,
  ⟨(0,[]),⟨Nat.zero_le _,(λa j h=>by cases h),rfl⟩,aj.keep ⟨ab,ab,ab,ab,ab,trivial⟩ ⟨ab,ab,ab,trivial⟩⟩,λ⟨k,m⟩ ⟨hk,hok,hinv⟩=>?_⟩
 dsimp only at hk hok hinv ⊢
 conv=>whnf
 refine ae (λh1=>?_) (λh1=>?_) <;> (rw[h1];conv=>whnf)
 . have hlt:k<w.zones.length:=by simpa using h1
   obtain⟨x,hx⟩:∃x,w.zones[k]? =some x:=⟨_,ag hlt⟩
   rw[NA hx]at hinv;refine⟨av k,aN x,aC hx,?_⟩
   conv=>whnf
   rw[EG];have again:∀m',(m' =if iO w.zones m x=true then nJ x.zone.apex k m else m)->(k+1<=w.zones.length/\iU w.zones m' /\lN w.zones (k+1) (w.zones.drop (k+1)) m' =gi w.zones):=λm' e=>by
    refine⟨hlt,?_,by rw[e];exact hinv⟩;rw[e];split
    . exact hok.put hx
    . exact hok
   cases hf:fR x.zone.apex m with
   |none =>
    conv=>whnf
    (refine⟨(by kernel_rfl:bf _ _=true),?_⟩;conv=>whnf)
    have ht:iO w.zones m x=true:=by unfold iO;rw[hf]
    refine⟨(k+1,nJ x.zone.apex k m),again _ (by rw[if_pos ht]),by(show w.zones.length-(k+1)<w.zones.length-k;omega),aj.keep ⟨ab,ab,ab,ab,⟨ao (by omega),rfl⟩,trivial⟩ ⟨ab,ab,⟨?_,rfl⟩,trivial⟩⟩;show some (Blk.smap (dG x.zone.apex (.int .i64 (k:Int)) (pV m)))=_
    rw[Bf]
   |some j =>
    conv=>whnf
    (refine⟨(by kernel_rfl:bf _ _=true),?_⟩;conv=>whnf)
    obtain⟨p,hp,hpa⟩:=hok _ j hf;refine⟨av j,aN p,aC hp,?_⟩
    conv=>whnf
    (refine⟨_,_,PJ x p,?_⟩;conv=>whnf)
    have ht:iO w.zones m x=dO x p:=by unfold iO;rw[hf];dsimp only;rw[hp]
    refine ae (λh2=>?_) (λh2=>?_) <;> (rw[h2];conv=>whnf)
    . have ht:iO w.zones m x=true:=ht.trans h2;refine⟨(k+1,nJ x.zone.apex k m),again _ (by rw[if_pos ht]),by(show w.zones.length-(k+1)<w.zones.length-k;omega),aj.keep ⟨ab,ab,ab,ab,⟨ao (by omega),rfl⟩,trivial⟩ ⟨ab,ab,⟨?_,rfl⟩,trivial⟩⟩;show some (Blk.smap (dG x.zone.apex (.int .i64 (k:Int)) (pV m)))=_
      rw[Bf]
    . have ht:iO w.zones m x=false:=ht.trans h2;exact⟨(k+1,m),again _ (by rw[if_neg (by rw[ht];simp)]),by(show w.zones.length-(k+1)<w.zones.length-k;omega),aj.keep ⟨ab,ab,ab,ab,⟨ao (by omega),rfl⟩,trivial⟩ ⟨ab,ab,ab,trivial⟩⟩
 . obtain rfl:k=w.zones.length:=by simp at h1;omega
   rw[List.drop_length]at hinv;obtain rfl:m=gi w.zones:=hinv;exact af rfl rfl
end Go.Proofs.YtjapjahfllomkaaGreatDoor
namespace NP
open NQ Go
theorem mA(a:Bs):aH a [46]=true:=by
 rw[dE];show([]:List Bs) <+: _
 exact List.nil_prefix
def dI(zs:List ai)(q:aV):Ans×Bool:=jf zs (gi zs) q ((back q.name).length+2) [46]
theorem Kz{q:aV}(h:bK q=true):au q.name=true:=by
 unfold bK at h;simp only[aB]at h;exact h.1.1
theorem FR{zs:List ai}{q:aV}(hg:mC zs)(hq:bK q=true){m:List (Bs×Nat)}(hm:iU zs m){a:Bs}(hu:aH q.name a=true){f:Nat}(hf:(back q.name).length+1<=f+(back a).length){i:Nat}{p:ai}(hi:fR a m=some i)(hp:zs[i]? =some p)
 (hk:((cu p.zone q).1.kind != 4)=false):Use p.zone q/\aH q.name (cu p.zone q).1.cut=true/\(back a).length<(back (cu p.zone q).1.cut).length/\1<=f:=by
 obtain⟨p',hp',ha⟩:=hm a i hi;rw[hp]at hp';cases hp';obtain⟨g1,g2⟩:=hg p (aq hp);have u:Use p.zone q:=⟨g1,g2,hq,by rw[ha];exact hu⟩
 obtain⟨r1,r2,_⟩:=vM u hk;rw[ha]at r2;refine⟨u,r1,r2,?_⟩;have:=((dE _ _).1 r1).length_le;omega
end NP
namespace Go.Proofs.YtjapjahfllomkaaGreatDoor
open NQ Go NP Go.RowKit
theorem Dc(w:ay)(q:aV)(hg:mC w.zones)(hq:bK q=true):NQ.Fn cx 125 [.agg (Dv w (gi w.zones)),.agg (cS q)] (.tuple [.agg ((ia (dI w.zones q).1).map .d),.d (.bool (dI w.zones q).2)]) []:=by
 refine cH (λ_=>[]) aO mixed Tryz.func125 (by kernel_rfl) rfl (ah rfl) ?_
 conv=>whnf
 refine⟨Nat×Bs,λx=>⟨[(2,.ptr 2 0),(3,.ptr 3 0),(4,.ptr 4 0),(6,.d (.str x.2))],[(2,.box ((Dv w (gi w.zones)).map .d)),(3,.box ((cS q).map .d)),(4,.box [.d (.int .i64 0),.nil 5,.d (.str [])])]⟩,
  λx=>aH q.name x.2=true/\(back q.name).length+1<=x.1+(back x.2).length/\jf w.zones (gi w.zones) q (x.1+1) x.2=dI w.zones q,λx=>x.1,
  ⟨((back q.name).length+1,[46]),⟨mA q.name,by omega,rfl⟩,aj.keep ⟨ab,ab,ab,ab,trivial⟩ ⟨ab,ab,ab,trivial⟩⟩,λ⟨f,a⟩ ⟨hu,hf,hinv⟩=>?_⟩
 dsimp only at hu hf hinv ⊢
 conv=>whnf
 refine⟨_,Io a (gi w.zones),?_⟩;unfold jf at hinv;cases hfi:fR a (gi w.zones)with
 |none =>
  rw[hfi]at hinv
  conv=>whnf
  refine af rfl ?_;rw[<- hinv];rfl
 |some i =>
  rw[hfi]at hinv
  conv=>whnf
  try (refine⟨(by kernel_rfl:bf _ _=true),?_⟩;conv=>whnf)
  obtain⟨p,hp,hpa⟩:=wb w.zones a i hfi;have hg' :=hg p (aq hp);refine⟨av i,aN p,aC hp,?_⟩
  conv=>whnf
  (refine⟨_,_,Lx p.zone q hg'.1,?_⟩;conv=>whnf)
  dsimp only at hinv;rw[hp]at hinv;dsimp only at hinv;refine ae (λh2=>?_) (λh2=>?_) <;> (rw[h2];conv=>whnf)
  . have h2' :((cu p.zone q).1.kind != 4)=true:=h2;rw[if_pos h2']at hinv;refine af rfl ?_;rw[<- hinv];rfl
  . have h2' :((cu p.zone q).1.kind != 4)=false:=h2;rw[if_neg (by rw[h2'];simp)]at hinv;obtain⟨u,r1,r2,r3⟩:=FR hg hq (wb w.zones) hu hf hfi hp h2';obtain⟨f,rfl⟩:∃g,f=g+1:=⟨f-1,by omega⟩
    exact⟨(f,(cu p.zone q).1.cut),⟨r1,by dsimp only;omega,hinv⟩,by(show f<f+1;omega),aj.keep ⟨ab,ab,ab,ab,trivial⟩ ⟨ab,ab,ab,trivial⟩⟩
end Go.Proofs.YtjapjahfllomkaaGreatDoor
namespace NP
open NQ Go
theorem wa{zs:List ai}{q:aV}(hg:mC zs)(hq:bK q=true){m:List (Bs×Nat)}(hm:iU zs m):∀(f:Nat) (a:Bs),aH q.name a=true-> ∀x,jf zs m q f a=(x,true)-> ∃p∈zs,Use p.zone q/\x=(cu p.zone q).1/\(x.kind != 4)=true
 |0,a,hu,x,h=>by cases h
 |f+1,a,hu,x,h=>by
  unfold jf at h;cases hi:fR a m with
  |none=>rw[hi]at h;cases h
  |some i =>
   rw[hi]at h;obtain⟨p,hp,ha⟩:=hm a i hi;dsimp only at h;rw[hp]at h;dsimp only at h;have hmem:=aq hp;obtain⟨g1,g2⟩:=hg p hmem;have u:Use p.zone q:=⟨g1,g2,hq,by rw[ha];exact hu⟩
   cases hk:((cu p.zone q).1.kind != 4)with
   |true=>rw[hk,if_pos rfl]at h;cases h;exact⟨p,hmem,u,rfl,hk⟩
   |false =>
    rw[hk,if_neg (by simp)]at h;exact wa hg hq hm f _ (vM u hk).1 x h
theorem vQ{zs:List ai}{q:aV}(hg:mC zs)(hq:bK q=true){x:Ans}(h:dI zs q=(x,true)):∃p∈zs,Use p.zone q/\x=(cu p.zone q).1/\(x.kind != 4)=true :=
 wa hg hq (wb zs) _ _ (mA q.name) x h
theorem Lv{s:gG}(h:dP s=true)(ht:s.type=3):∃d,s.data=[d]/\au d.text=true:=by
 unfold dP at h;simp only[aB,Bool.not_eq_true',Bool.or_eq_false_iff,Bool.not_eq_false']at h;obtain⟨⟨⟨⟨_,_⟩,hw⟩,hs,_⟩,hall⟩:=h;rw[ht]at hs hall;have h1:s.data.length=1:=by
  have:(eG 3).single=true:=rfl;rw[this,dC]at hs;have:(s.data.length:Int)=1:=by simpa using hs
  omega
 obtain⟨d,hd⟩:∃d,s.data=[d]:=List.length_eq_one_iff.1 h1;refine⟨d,hd,?_⟩;rw[hd]at hall;have:=ax.1 hall 0 (by simp);rw[tk (d:=d) (p:=d) rfl rfl]at this;unfold mK at this;simp only[Bool.not_eq_true',Bool.or_eq_false_iff,Bool.not_eq_false']at this;have hv:=this.1;unfold dZ at hv;simp only[aB]at hv;have ht:=hv.2;have e:(eG 3).text=1:=rfl;rw[e]at ht;simp only[jk,if_true,aB]at ht;exact ht.1
theorem Use.Lt{z:aF}{q:aV}(u:Use z q)(hk:(cu z q).1.kind=3):∃s R d,(cu z q).1.sets=s::R/\s∈z.sets/\s.set.type=3/\s.set.data=[d]/\au d.text=true:=by
 have key:∀(q' :aV) (rest:List Int),q'.type=3->(decide (atI z.sets q' >=0))=true->(cu z q).1.sets=db z.sets [] (atI z.sets q' ::rest)-> ∃s R d,(cu z q).1.sets=s::R/\s∈z.sets/\s.set.type=3/\s.set.data=[d]/\au d.text=true:=λq' rest ht hat hs=>by
  have hh:cP z.sets q' =true:=by
   have:=nA z.sets q';cases hc:cP z.sets q' with
   |true=>rfl
   |false=>rw[hc]at this;simp at this hat;omega
  obtain⟨k,s,h1,h2,h3⟩:=zj hh;have hm:=aq h2;have ht3:s.set.type=3:=by have:=congrArg Prod.snd h3;exact(show s.set.type=q'.type from this).trans ht
  obtain⟨d,hd,hv⟩:=Lv (u.ord.set s hm) ht3;refine⟨s,db z.sets ([]++[atI z.sets q']) rest,d,?_,hm,ht3,hd,hv⟩;rw[hs,db,if_neg (by rw[h1];simp),h1];simp[h2]
 rw[u.ans]at hk key ⊢;dsimp only at hk key ⊢;unfold gr at hk key ⊢;split at hk
 . exfalso;rename_i hr;unfold kO at hk;rw[if_pos hr]at hk;simp at hk
 rename_i hr;rw[if_neg hr]at key ⊢;split at hk
 . simp[Dm]at hk
 rename_i hd;rw[if_neg hd]at key ⊢;split at hk
 . rename_i ha;rw[if_pos ha]at key ⊢;have:decide (atI z.sets ⟨q.name,3⟩>=0)=true:=by unfold sj at ha;simp only[aB]at ha;exact ha.1
   exact key ⟨q.name,3⟩ [] rfl this rfl
 rename_i ha;rw[if_neg ha]at key ⊢;split at hk
 . exfalso;rename_i hx;unfold mr at hk;rw[if_pos hx]at hk;simp at hk
 rename_i hx;rw[if_neg hx]at key ⊢;split at hk
 . simp[AI]at hk
 rename_i hw;rw[if_neg hw]at key ⊢;split at hk
 . rename_i hwa;rw[if_pos hwa]at key ⊢;have hs:(cd (vw z q)).sets=z.sets:=xu _;have:decide (atI z.sets ⟨(cd (vw z q)).dL,3⟩>=0)=true:=by unfold lB at hwa;simp only[aB]at hwa;rw[hs]at hwa;exact hwa.1
   refine key ⟨(cd (vw z q)).dL,3⟩ [jt (cd (vw z q)).sets (cd (vw z q)).q.name] rfl this ?_;unfold nn;rw[hs]
 rename_i hwa;split at hk
 . exfalso;unfold mB at hk;(try split at hk) <;> simp at hk
 . exfalso;unfold pH at hk;(try split at hk) <;> simp at hk
def gZ(zs:List ai):Nat->aV->List Signed->Ans×Int
 |0,_,_=>(iV,33)
 |f+1,q,kept=>if (!(dI zs q).2)=true then(iV,34)else if ((dI zs q).1.kind != 3)=true then(⟨(dI zs q).1.kind,kept++(dI zs q).1.sets,(dI zs q).1.cut⟩,0)
  else match (dI zs q).1.sets.head? with
   |some s=>(match s.set.data.head? with|some d=>gZ zs f ⟨d.text,q.type⟩ (kept++[s])|none=>(iV,0))
   |none=>(iV,0)
def dA(w:ay)(q:aV):Ans×Int:=if (aK w&&bK q)=false then(iV,1)else gZ w.zones 9 q []
theorem uO{n:Nat}:∀(l seen:List ai),dx n seen l=true-> ∀p∈l,aY p.zone=true/\0<=p.host/\p.host<(n:Int)
 |[],_,_,p,hp=>by cases hp
 |x::t,seen,h,p,hp=>by
  unfold dx at h;simp only[aB,Bool.not_eq_true',Bool.or_eq_false_iff,Bool.not_eq_false',decide_eq_false_iff_not]at h;rcases List.mem_cons.1 hp with rfl|hp
  . exact⟨h.1.2,by omega,by omega⟩
  . exact uO t _ h.2 p hp
theorem bE{w:ay}(h:aK w=true):∀p∈w.zones,aY p.zone=true/\0<=p.host/\p.host<(w.hosts.length:Int):=by
 unfold aK iX at h;simp only[aB]at h;exact uO _ _ h.1.2.1.2
structure cw(w:ay):Prop where
 hosts:w.hosts.length<=1000
 zones:w.zones.length<=1000
 hints:w.hints.length<=1000
 few:∀p∈w.zones,iv p.zone=true
end NP
namespace Go.Proofs.YtjapjahfllomkaaGreatDoor
open NQ Go NP Go.RowKit
set_option maxHeartbeats 1000000 in
theorem yS(w:ay)(q0:aV)(hF:cw w):NQ.Fn cx 66 [.agg (ba w),.agg (cS q0)] (.tuple [.agg ((ia (dA w q0).1).map .d),.d (.int .i64 (dA w q0).2)]) []:=by
 refine cH (λ_=>[]) aO mixed Tryz.func66 (by kernel_rfl) rfl (ah rfl) ?_
 conv=>whnf
 (refine⟨_,_,wi w (by have:=hF.hosts;omega) (by have:=hF.zones;omega) (by have:=hF.hints;omega),?_⟩;conv=>whnf)
 have bad:∀(b:Bool),(aK w&&bK q0)=false->dA w q0=(iV,1):=λ_ h=>by unfold dA;rw[if_pos h]
 repeat' (first|(refine⟨_,_,CK q0,?_⟩;conv=>whnf)|(refine ae (λh=>?_) (λh=>?_) <;> (rw[h];conv=>whnf))|fail)
 . refine af rfl ?_;rw[bad true (by simp_all)];rfl
 . refine af rfl ?_;rw[bad true (by simp_all)];rfl
 have hval:aK w=true:=by simpa using ‹(!aK w)=false›
 have hq0:bK q0=true:=by simpa using ‹(!bK q0)=false›
 have hg:mC w.zones:=λp hp=>⟨hF.few p hp,(bE hval p hp).1⟩
 have htr:dA w q0=gZ w.zones 9 q0 []:=by unfold dA;rw[if_neg (by rw[hval,hq0];simp)]
 (refine⟨_,_,Ki w (by have:=hF.zones;omega),?_⟩;conv=>whnf)
 refine⟨aV×List Signed,λx=>⟨[(2,.ptr 2 0),(3,.ptr 3 0),(4,.ptr 4 0),(6,.ptr 6 0),(7,.own 7)],[(2,.box ((ba w).map .d)),(3,.box ((cS x.1).map .d)),(4,.box [.d (.int .i64 0),.nil 5,.d (.str [])]),(6,.box ((Dv w (gi w.zones)).map .d)),(7,.row 74 5 (x.2.map az))]⟩,
  λx=>bK x.1=true/\x.2.length<=8/\gZ w.zones (9-x.2.length) x.1 x.2=dA w q0,λx=>9-x.2.length,
  ⟨(q0,[]),⟨hq0,by simp,by rw[htr];rfl⟩,(aj.nF 7 7 5 74 5 rfl rfl (by decide)).trans (aj.keep ⟨ab,ab,ab,ab,ab,trivial⟩ ⟨ab,ab,ab,ab,ab,trivial⟩)⟩,λ⟨q,kept⟩ ⟨hq,hkl,hinv⟩=>?_⟩
 dsimp only at hq hkl hinv ⊢
 conv=>whnf
 obtain⟨f,hf⟩:∃f,9-kept.length=f+1:=⟨8-kept.length,by omega⟩
 rw[hf]at hinv;unfold gZ at hinv
 (refine⟨_,_,Dc w q hg hq,?_⟩;conv=>whnf)
 refine ae (λh1=>?_) (λh1=>?_) <;> (rw[h1];conv=>whnf)
 . rw[if_pos h1]at hinv;refine af rfl ?_;rw[<- hinv];rfl
 rw[if_neg (by rw[h1];simp)]at hinv;have hok:(dI w.zones q).2=true:=by simpa using h1
 obtain⟨p,hpm,u,hpa,hp4⟩:=vQ hg hq (x:=(dI w.zones q).1) (by rw[<- hok]);have hal:(dI w.zones q).1.sets.length<=1000:=by rw[hpa];exact Hy u.few q
 refine ae (λh2=>?_) (λh2=>?_) <;> (rw[h2];conv=>whnf)
 . rw[if_pos h2]at hinv;refine⟨by(show(kept.map az).length+((dI w.zones q).1.sets.map az).length<=_);simp;omega,by(show((kept.map az).length+((dI w.zones q).1.sets.map az).length)*80<=_);simp;omega,?_⟩
   conv=>whnf
   refine af rfl ?_;rw[<- hinv];show AV.tuple _=AV.tuple _
   simp[ia];exact⟨rfl,rfl⟩
 rw[if_neg (by rw[h2];simp)]at hinv;have hk3:(cu p.zone q).1.kind=3:=by rw[<- hpa];simpa using h2
 obtain⟨s,R,d,hs,hsm,hst,hsd,hdv⟩:=u.Lt hk3;rw[<- hpa]at hs;rw[hs]at hinv;simp only[List.head?_cons,hsd]at hinv;refine ae (λh3=>?_) (λh3=>?_) <;> (rw[h3];conv=>whnf)
 . have hl8:kept.length=8:=by simp at h3;omega
   have:f=0:=by omega
   subst this;refine af rfl ?_;rw[<- hinv];rfl
 . rw[hs];refine⟨by decide,az s,rfl,?_⟩
   conv=>whnf
   refine⟨by(show(kept.map az).length+1<=_);simp;omega,by(show((kept.map az).length+1)*80<=_);simp;omega,?_⟩
   conv=>whnf
   refine⟨by decide,az s,rfl,?_⟩
   conv=>whnf
   refine⟨by decide,bt d,(by rw[hsd];rfl:(s.set.data.map bt)[(0:Int).toNat]? =some (bt d)),?_⟩
   conv=>whnf
   have hl8:kept.length<8:=by simp at h3;omega
   refine⟨(⟨d.text,q.type⟩,kept++[s]),⟨?_,by simp;omega,?_⟩,by(show 9-(kept++[s]).length<9-kept.length);simp;omega,aj.keep ⟨ab,ab,ab,ab,ab,trivial⟩ ⟨ab,ab,ab,ab,⟨?_,rfl⟩,trivial⟩⟩
   . unfold bK at hq ⊢;simp only[aB]at hq ⊢;exact⟨⟨hdv,hq.1.2⟩,hq.2⟩
   . rw[<- hinv]
     congr 1
     simp;omega
   . show some (Blk.row _ _ (kept.map az++[az s]) _)=_
     rw[List.map_append];rfl
end Go.Proofs.YtjapjahfllomkaaGreatDoor
