/-
  Merged texts.
-/
import Derived.Test.YtjojkakjmoefaaaGreatDoorMQrg
import Derived.Test.YtjojkakjmoefaaaGreatDoorMLrc
set_option linter.all false
set_option maxHeartbeats 1000000
set_option maxRecDepth 100000
namespace Go.Proofs.YtjojkakjmoefaaaGreatDoor
open NQ Go.RowKit
structure kf where
 name:Bs
 addr:Int
 owner:Int
 deriving DecidableEq
structure al where
 host:Int
 ai:ax
 deriving DecidableEq
structure aQ where
 ar:List kf
 ah:List al
 anchor:cH
 hints:List Int
def gG(h:kf):List D:=[.str h.name,.int .i64 h.addr,.int .i64 h.owner]
def aP(p:al):List D:=[.int .i64 p.host,.str p.ai.ag,.slice 5<|p.ai.af.map an]
def bF(w:aQ):List D:=[.slice 3<|w.ar.map gG,.slice 3<|w.ah.map aP,.str w.anchor.name,.int .i64 w.anchor.type,.int .i64 w.anchor.aJ,.slice 3<|w.anchor.data.map aS,.slice 1 (w.hints.map λn=>[.int .i64 n])]
def Tr(s:Bs):Int:=((gu s).1.length:Int)
def TQ(s:Bs):List al->Bs×Int->Bs×Int
 |[],b=>b
 |p::t,b=>TQ s t (if (bD s p.ai.ag).1=true/\b.2<Tr p.ai.ag then(p.ai.ag,Tr p.ai.ag)else b)
def hAt(s:Bs)(w:aQ)(k:Nat):Bs×Int:=TQ s ((w.ah.filter λp=>(bD s p.ai.ag).1).take k) ([], -1)
def XD(p q:al):NQ.Fn cx 54 [.agg<|aP p,.agg<|aP q] (.d<|.bool<|decide ((jL p.ai).1>(jL q.ai).1)||(decide ((jL p.ai).1=(jL q.ai).1)&&decide (p.host<q.host))) []:=by
 refine bL bf mixed Tryz.func54 ?_
 (refine⟨_,_,Hk p.ai,M ?_⟩)
 (refine⟨_,_,Hk q.ai,M ?_⟩)
 repeat' (first|(refine aD ?_ ?_<;>intro h)|fail)
 all_goals (refine ak rfl ?_;show AV.d (D.bool _)=AV.d (D.bool _);congr 2<;>simp_all)
def oV(n:Int):Bool:=decide (n>=1)&&decide (n<=1000000)
def EZ(s:Bs):Bool:=(gu s).1.head? ==some [42]
def dR(l:List Int):List<|List D×D:=l.map λa=>([.tuple [.int .i64 a]],.bool true)
def rJ(a:Int):∀l:List Int,qx (.int .i64 a) (dR l)=some (if l.contains a=true then some (.bool true)else none)
 |[]=>rfl
 |x::l=>by
  show(match kJ (.int .i64 a) [.tuple [.int .i64 x]]with|some true=>_|some false=>qx (.int .i64 a)<|dR l|none=>none)=_
  have:kJ (.int .i64 a) [.tuple [.int .i64 x]]=some (a==x):=by simp[kJ]
  rw[this];cases h:(a==x)with
  | true => have e : a = x := by simpa using h
            subst e;simp
  |false=>simp only[List.contains_cons,h,iI];exact rJ a l
def Jk{a:Int}{l:List Int}(h:l.contains a=false):AW (.int .i64 a) (.bool true) (dR l)=some (dR<|l++[a]):=by
 rw[Sa<|by rw[rJ,h];rfl];simp[dR]
def oh:List Int->List kf->Bool
 |_,[]=>true
 |j,h::t=> !(!aR h.name||EZ h.name||decide (h.owner<0)||decide (h.owner>=32))&& !(!oV h.addr||j.contains h.addr)&&oh (j++[h.addr]) t
def wx(l:List kf):Bool:=decide ((l.length:Int)<=64)&&oh [] l
def QV{l:List kf}{k:Nat}{h:kf}(D:l[k]? =some h)(j:List Int):oh j (l.drop k)=(!(!aR h.name||EZ h.name||decide (h.owner<0)||decide (h.owner>=32))&& !(!oV h.addr||j.contains h.addr)&&oh (j++[h.addr]) (l.drop<|k+1)):=by
 rw[drop_cons D];rfl
def Eo(s:cH)(hints:List Int):Bool:=eE s&&(s.type==6)&&(s.name==[46])&&decide ((hints.length:Int)>=1)&&decide ((hints.length:Int)<=8)&&hints.all oV
def Vu(q:bO):NQ.Fn cx 26 [.agg<|eY q] (.d<|.bool<|eO q) []:=by
 refine bL bf mixed Tryz.func26 ?_
 (refine⟨_,_,ng q.name,M ?_⟩)
 repeat' (first|(refine aD ?_ ?_<;>intro h)|(refine ak rfl ?_;show AV.d (D.bool false)=_;(try simp only[au]at *);simp only[eO, *, if_true,if_false,aX];done)|(refine ak rfl ?_;show AV.d (D.bool true)=_;(try simp only[au]at *);simp only[eO, *, if_true,if_false,aX];done)|fail)
 all_goals (refine ak rfl ?_;show AV.d (D.bool _)=AV.d (D.bool _);congr 2;simp_all [eO])
def LR(n:Int):NQ.Fn cx 94 [.int .i64 n] (.d<|.bool<|oV n) []:=by
 refine bL bf mixed Tryz.func94 ?_
 repeat' (first|(refine aD ?_ ?_<;>intro h)|fail)
 all_goals (refine ak rfl ?_;show AV.d (D.bool _)=AV.d (D.bool _);congr 2;unfold oV;simp only[*, if_true,if_false,aX])
def YB(n:Int):NQ.Fn cx 98 [.int .i64 n] (.d<|.bool (!oV n)) []:=by
 refine bL bf mixed Tryz.func98 ?_
 (refine⟨_,_,LR n,M ?_⟩)
 exact ak rfl rfl
def YC(s:Bs):NQ.Fn cx 93 [.str s] (.d<|.bool<|EZ s) []:=by
 refine bL bf mixed Tryz.func93 ?_
 (refine⟨_,_,Gk s,M ?_⟩)
 (refine aD ?_ ?_<;>intro h)
 .cases j:(gu s).1 with
  |nil=>rw[j]at h;simp at h
  |cons x t =>
   refine⟨by decide,cK x,rfl,M ?_⟩
   refine ak rfl ?_;show AV.d (D.bool _)=AV.d (D.bool _)
   congr 2
   unfold EZ;rw[j];simp
 .refine ak rfl ?_;show AV.d (D.bool _)=AV.d (D.bool _)
  congr 2
  unfold EZ;cases j:(gu s).1 with
  |nil=>rfl
  |cons x t=>rw[j]at h;simp at h
def TS(l:List Int)(p:Int->Bool)(Y:l.length<=100000)(W:∀s∈l,NQ.Fn cx 98 [.int .i64 s] (.d<|.bool<|p s) []) :
 NQ.Fn cx 155 [.slice 1<|l.map eN,.fn 98 [] []] (aj (match l.findIdx? p with|some k=>(k:Int)|none=> -1)) []:=by
 refine bL bf mixed Tryz.func155 ?_;refine⟨Nat,λk=>⟨[(0,.d<|.slice 1<|l.map eN),(1,.d<|.fn 98 [] []),(6,.d<|.slice 1<|l.map eN),(7,aj ((l.map eN).length:Int)),(8,aj k)],[]⟩,λk=>k<=l.length/\ ∀j y,j<k->l[j]? =some y->p y=false,λk=>l.length-k,
  ⟨0,⟨by omega,λj y h=>by omega⟩,aI.keep⟩,λk T=>?_⟩
 obtain⟨T,D⟩:=T;conv=>whnf
 refine aD ?_ ?_<;>intro h1
 .have H:k<l.length:=by simp at h1;omega
  obtain⟨s,I⟩:∃s,l[k]? =some s:=⟨_,ao H⟩
  refine⟨aB k,eN s,aL I,M ?_⟩
  (refine⟨_,_,W s<|aw I,M ?_⟩)
  refine aD ?_ ?_<;>intro K
  .refine ak rfl ?_;have:l.findIdx? p=some k:=by
    rw[List.findIdx?_eq_some_iff_getElem];obtain⟨U,V⟩:=aA.1 I;refine⟨U,by rw[V];exact K,λj G=>?_⟩;have:=D j (l[j]) G (ao<|by omega);rw[this];decide
   rw[this];rfl
  .refine⟨k+1,⟨H,λj y G J=>?_⟩,by(show l.length-(k+1)<l.length-k;omega),aI.keep⟩;rcases Nat.lt_succ_iff_lt_or_eq.1 G with G|rfl
   .exact D j y G J
   .rw[I]at J;cases J;exact K
 .obtain rfl:k=l.length:=by simp at h1;omega
  refine ak rfl ?_;have:l.findIdx? p=none:=by
   rw[List.findIdx?_eq_none_iff];intro x X;obtain⟨i,N⟩:=cO X;exact D i x (aA.1 N).1 N
  rw[this];rfl
def LS(l:List Int)(H:l.length<=100000):NQ.Fn cx 97 [.slice 1<|l.map eN,.fn 98 [] []] (.d<|.bool (!l.all oV)) []:=by
 refine bL bf mixed Tryz.func97 ?_
 (refine⟨_,_,TS l (λn=> !oV n) H λs _=>YB s,M ?_⟩)
 refine ak rfl ?_;show AV.d (D.bool<|decide<|(match l.findIdx? (λn=> !oV n)with|some k=>(k:Int)|none=> -1)>=0)=_
 congr 2
 cases h:l.findIdx? (λn=> !oV n)with
 |some k =>
  obtain⟨h1,G,_⟩:=List.findIdx?_eq_some_iff_getElem.1 h;rw[decide_eq_true<|aB k];have:l.all oV=false:=by
   rw[<- Bool.not_eq_true,aG];intro j;rw[j _<|List.getElem_mem h1]at G;cases G
  rw[this];rfl
 |none =>
  have:l.all oV=true:=by
   rw[aG];intro x I;have:=List.findIdx?_eq_none_iff.1 h x I;simpa using this
  rw[this];rfl
def LN(s:cH)(hints:List Int)(j:hints.length<=100000):NQ.Fn cx 53 [.agg<|bV s,.slice 1<|hints.map eN] (.d<|.bool<|Eo s hints) []:=by
 refine bL bf mixed Tryz.func53 ?_
 (refine⟨_,_,oQ s,M ?_⟩)
 repeat' (first|(refine aD ?_ ?_<;>intro h)|fail)
 all_goals first
  |(refine ak rfl ?_;show AV.d (D.bool false)=_;(try simp only[au]at *);unfold Eo;simp_all;done)
  |skip
 all_goals first
  | ((refine ⟨_, _, LS hints j, ?_⟩; conv => whnf)
     refine ak rfl ?_;show AV.d (D.bool _)=AV.d (D.bool _)
     congr 2
     (try simp only[au]at *)
     unfold Eo
     simp_all;done)
  |(refine ak rfl ?_;show AV.d (D.bool false)=_;(try simp only[au]at *);unfold Eo;simp_all;omega)
def Iy(l:List kf)(N:l.length<=100000):NQ.Fn cx 51 [.slice 3<|l.map gG] (.d<|.bool<|wx l) []:=by
 refine bL bf mixed Tryz.func51 ?_;rw[au];refine aD ?_ ?_<;>intro h
 .refine ak rfl ?_;show AV.d (D.bool _)=AV.d (D.bool _)
  congr 2
  unfold wx;simp at h;simp;omega
 have I:wx l=oh [] l:=by unfold wx;simp at h;simp;omega
 rw[I];refine⟨Nat,λk=>⟨[(10,.d<|.slice 3<|l.map gG),(11,aj ((l.map gG).length:Int)),(12,aj k),(3,.omap 9)],[(9,.cS (dR ((l.take k).map (·.addr))))]⟩,λk=>k<=l.length/\oh ((l.take k).map (·.addr)) (l.drop k)=oh [] l,λk=>l.length-k,
  ⟨0,⟨Nat.zero_le _,rfl⟩,aI.keep⟩,λk ⟨K,j⟩=>M ?_⟩
 refine aD ?_ ?_<;>intro h1
 .have G:k<l.length:=by simpa using h1
  obtain⟨x,H⟩:∃x,l[k]? =some x:=⟨_,ao G⟩
  rw[QV H]at j;refine⟨aB k,gG x,aL H,M ?_⟩
  repeat' (first|(refine⟨_,_,ng x.name,M ?_⟩)|(refine⟨_,_,YC x.name,M ?_⟩)|(refine⟨_,_,LR x.addr,M ?_⟩)|(refine aD ?_ ?_<;>intro h)|(refine⟨_,rJ x.addr _,?_⟩;cases J:((l.take k).map (·.addr)).contains x.addr<;>(conv=>whnf))|fail)
  all_goals first
   |(refine ak rfl ?_;show AV.d (D.bool false)=AV.d (D.bool _);rw[<- j];simp_all;done)
   | (refine ⟨_, Jk J, ?_⟩
      conv=>whnf
      refine⟨k+1,⟨G,?_⟩,by(show l.length-(k+1)<l.length-k;omega),aI.keep ⟨ae,ae,⟨bj<|by omega,rfl⟩,ae,trivial⟩ ⟨⟨?_,rfl⟩,trivial⟩⟩
      .rw[cj H,List.map_append];rw[<- j];simp_all
      .rw[cj H,List.map_append];rfl)
 .obtain rfl:k=l.length:=by simp at h1;omega
  refine ak rfl ?_;rw[<- j,List.drop_length];rfl
def pmap(l:List al):List<|List D×D:=l.map λp=>([.int .i64 p.host,.str p.ai.ag],.bool true)
def kS(p x:al):Bool:=(p.host==x.host)&&(p.ai.ag==x.ai.ag)
def zO(p:al):∀l:List al,qm [.int .i64,.str] [.int .i64 p.host,.str p.ai.ag] (pmap l)=some (if l.any (kS p)=true then some (.bool true)else none)
 |[]=>rfl
 |x::l=>by
  show(match dO [.int .i64,.str] [aj p.host,.d<|.str p.ai.ag] [aj x.host,.d<|.str x.ai.ag]with|some true=>_|some false=>qm _ _<|pmap l|none=>none)=_
  have:dO [.int .i64,.str] [aj p.host,.d<|.str p.ai.ag] [aj x.host,.d<|.str x.ai.ag]=some (kS p x):=by
   show some ((p.host==x.host)&&((p.ai.ag==x.ai.ag)&&true))=_
   rw[gF];rfl
  rw[this,List.any_cons];cases h:kS p x with
  |true=>simp
  |false=>simp only[iI];exact zO p l
variable {p:al}{l:List al}
def XQ(h:l.any (kS p)=false):AG [.int .i64,.str] [.int .i64 p.host,.str p.ai.ag] (.bool true) (pmap l)=some (pmap<|l++[p]):=by
 rw[DH<|by rw[zO,h];rfl];simp[pmap]
def apx(l:List al):List<|Bs×D:=l.foldl (λm p=>cy p.ai.ag (.bool true) m) []
def VO(l:List al)(p:al):apx (l++[p])=cy p.ai.ag (.bool true) (apx l):=by unfold apx;rw[List.foldl_append];rfl
def gN(n:Nat):List al->List al->Bool
 |_,[]=>true
 |j,p::t=> !(decide (p.host<0)||decide (p.host>=(n:Int))||j.any (kS p)|| !aW p.ai)&&gN n (j++[p]) t
def pH(w:aQ):Bool:=decide ((w.ah.length:Int)<=4000)&&gN w.ar.length [] w.ah&&decide (((apx w.ah).length:Int)<=500)
def Np{n:Nat}{k:Nat}(hp:l[k]? =some p)(j:List al):gN n j (l.drop k)=(!(decide (p.host<0)||decide (p.host>=(n:Int))||j.any (kS p)|| !aW p.ai)&&gN n (j++[p]) (l.drop<|k+1)):=by
 rw[drop_cons hp];rfl
def cT(w:aQ):Bool:=wx w.ar&&pH w&&Eo w.anchor w.hints
def Gg(w:aQ)(N:w.ah.length<=100000):NQ.Fn cx 52 [.agg<|bF w] (.d<|.bool<|pH w) []:=by
 refine bL bf mixed Tryz.func52 ?_;rw[au];refine aD ?_ ?_<;>intro h
 .refine ak rfl ?_;show AV.d (D.bool _)=AV.d (D.bool _)
  congr 2
  unfold pH;simp at h;simp;omega
 have G:pH w=(gN w.ar.length [] w.ah&&decide (((apx w.ah).length:Int)<=500)):=by
  have:decide ((w.ah.length:Int)<=4000)=true:=by simp at h ⊢;omega
  unfold pH;rw[this,gq]
 rw[G];refine⟨Nat,λk=>⟨[(1,.ptr 1 0),(15,.d<|.slice 3<|w.ah.map aP),(16,aj ((w.ah.map aP).length:Int)),(17,aj k),(3,.omap 12),(4,.omap 13)],[(1,.box<|(bF w).map .d),(12,.cS<|pmap<|w.ah.take k),(13,.smap<|apx<|w.ah.take k)]⟩,λk=>k<=w.ah.length/\gN w.ar.length (w.ah.take k) (w.ah.drop k)=gN w.ar.length [] w.ah,λk=>w.ah.length-k,
  ⟨0,⟨Nat.zero_le _,rfl⟩,aI.keep⟩,λk ⟨K,j⟩=>M ?_⟩
 refine aD ?_ ?_<;>intro h1
 .have H:k<w.ah.length:=by simpa using h1
  obtain⟨x,I⟩:∃x,w.ah[k]? =some x:=⟨_,ao H⟩
  rw[Np I]at j;refine⟨aB k,aP x,aL I,M ?_⟩
  repeat' (first|(refine⟨_,_,jI x.ai,M ?_⟩)|(refine aD ?_ ?_<;>intro h)|(refine⟨_,zO x _,?_⟩;cases J:(w.ah.take k).any<|kS x<;>(conv=>whnf))|fail)
  all_goals first
   |(refine ak rfl ?_;show AV.d (D.bool false)=AV.d (D.bool _);rw[<- j];clear j G;(try simp only[au]at *);simp only[*, if_true,if_false,aX];done)
   | (refine ⟨_, XQ J, ?_⟩
      conv=>whnf
      refine⟨k+1,⟨H,?_⟩,by(show w.ah.length-(k+1)<w.ah.length-k;omega),aI.keep ⟨ae,ae,ae,⟨bj<|by omega,rfl⟩,ae,ae,trivial⟩ ⟨ae,⟨?_,rfl⟩,⟨?_,rfl⟩,trivial⟩⟩
      .rw[cj I];rw[<- j];clear j G;(try simp only[au]at *);simp only[*, if_true,if_false,aX]
      .rw[cj I];rfl
      .rw[cj I,VO];rfl)
 .obtain rfl:k=w.ah.length:=by simp at h1;omega
  refine ak rfl ?_;rw[<- j,List.drop_length,List.take_length];rfl
def Ia(w:aQ)(h1:w.ar.length<=100000)(j:w.ah.length<=100000)(D:w.hints.length<=100000):NQ.Fn cx 25 [.agg<|bF w] (.d<|.bool<|cT w) []:=by
 refine bL bf mixed Tryz.func25 ?_
 (refine⟨_,_,Iy w.ar h1,M ?_⟩)
 refine aD ?_ ?_<;>intro h
 . (refine⟨_,_,Gg w j,M ?_⟩)
   refine eR (λh' =>?_) λh' =>?_<;>(rw[h'];conv=>whnf)
   . (refine⟨_,_,LN w.anchor w.hints D,M ?_⟩)
     refine ak rfl ?_;unfold cT;rw[h,h'];rfl
   .refine ak rfl ?_;unfold cT;rw[h,h'];rfl
 .refine ak rfl ?_;unfold cT;rw[h];rfl
def iy(a:Bs):List (Bs×Nat)->Option Nat
 |[]=>none
 |(b,i)::t=>if a=b then some i else iy a t
def ra(a:Bs)(i:Nat):List (Bs×Nat)->List (Bs×Nat)
 |[]=>[(a,i)]
 |(b,j)::t=>if a=b then(b,i)::t else(b,j)::ra a i t
def tY(m:List<|Bs×Nat):List<|Bs×D:=m.map λp=>(p.1,.int .i64 (p.2:Int))
def Kv(a:Bs):∀m,bH a (tY m)=(iy a m).map λi=>D.int .i64 (i:Int)
 |[]=>rfl
 |(b,i)::t=>by
  show(if a=b then _ else bH a<|tY t)=_
  unfold iy;split
  .rfl
  .exact Kv a t
def FA(a:Bs)(i:Nat):∀m,cy a (.int .i64 (i:Int)) (tY m)=tY (ra a i m)
 |[]=>rfl
 |(b,j)::t=>by
  show(if a=b then _ else _::cy a _ (tY t))=_
  unfold ra;split
  .rfl
  .rw[FA a i t];rfl
def Pj(a:Bs):∀m,qx (.str a) ((tY m).map Ga)=some ((iy a m).map λi=>D.int .i64 (i:Int))
 |[]=>rfl
 |(b,i)::t=>by
  show(match kJ (.str a) [.tuple [.str b]]with|some true=>_|some false=>qx (.str a)<|(tY t).map Ga|none=>none)=_
  have:kJ (.str a) [.tuple [.str b]]=some (a==b):=rfl;rw[this];unfold iy;by_cases h:a=b
  .subst h;simp
  .have:(a==b)=false:=by simp[h]
   rw[this,if_neg h];exact Pj a t
def sg(a b:Bs)(i:Nat):∀m,iy b (ra a i m)=if a=b then some i else iy b m
 |[]=>by
  simp only[ra,iy];by_cases h:a=b
  .rw[if_pos h.symm,if_pos h]
  .rw[if_neg<|Ne.symm h,if_neg h]
 |(c,j)::t=>by
  unfold ra;by_cases D:a=c
  .rw[if_pos D];subst D;unfold iy;by_cases h:b=a
   .rw[if_pos h,if_pos h.symm]
   .rw[if_neg h,if_neg h,if_neg<|Ne.symm h]
  .rw[if_neg D];unfold iy;by_cases h:b=c
   .rw[if_pos h,if_pos h,if_neg λe=>D<|e.trans h]
   .rw[if_neg h,if_neg h];exact sg a b i t
def ik(p q:al):Bool:=decide ((jL p.ai).1>(jL q.ai).1)||(decide ((jL p.ai).1=(jL q.ai).1)&&decide (p.host<q.host))
def kU(D:List al)(m:List<|Bs×Nat)(p:al):Bool:=match iy p.ai.ag m with
 |none=>true
 |some j=>(match D[j]? with|some q=>ik p q|none=>false)
def oS(j:List al):Nat->List al->List (Bs×Nat)->List (Bs×Nat)
 |_,[],m=>m
 |i,p::t,m=>oS j (i+1) t (if kU j m p=true then ra p.ai.ag i m else m)
def gA(j:List al):List<|Bs×Nat:=oS j 0 j []
variable {zs:List al}
def Vk{k:Nat}(hp:l[k]? =some p)(m:List<|Bs×Nat):oS zs k (l.drop k) m=oS zs (k+1) (l.drop<|k+1) (if kU zs m p=true then ra p.ai.ag k m else m):=by
 rw[drop_cons hp];rfl
def lB(D:List al)(m:List<|Bs×Nat):Prop:= ∀a j,iy a m=some j-> ∃p,D[j]? =some p/\p.ai.ag=a
variable {m:List (Bs×Nat)}
def lB.put(h:lB zs m){i:Nat}(hp:zs[i]? =some p):lB zs<|ra p.ai.ag i m:=by
 intro a j D;rw[sg]at D;split at D
 .cases D;exact⟨p,hp,by assumption⟩
 .exact h a j D
def lB.go:∀(l:List al) (i:Nat) (m:List<|Bs×Nat),(∀j,l[j]? =zs[i+j]?)->lB zs m->lB zs (oS zs i l m)
 |[],i,m,_,h=>h
 |p::t,i,m,D,h=>by
  unfold oS;refine lB.go t (i+1) _ (λj=>by have:=D<|j+1;simp at this;rw[this];congr 1;omega) ?_;split
  .exact h.put (by have:=D 0;simpa using this.symm)
  .exact h
def zZ(D:List al):lB D<|gA D:=lB.go D 0 [] (λj=>by rw[Nat.zero_add]) (λa j h=>by cases h)
def IQ(w:aQ)(m:List<|Bs×Nat):List D:=bF w++[.cS<|(tY m).map Ga]
def iT(j:List al)(m:List<|Bs×Nat)(q:bO):Nat->Bs->Ans×Bool
 |0,_=>(pY,false)
 |f+1,a=>match iy a m with
  |none=>(pY,false)
  |some i=>(match j[i]? with
   |some p=>if ((dL p.ai q).1.kind != 4)=true then((dL p.ai q).1,true)else iT j m q f (dL p.ai q).1.cut
   |none=>(pY,false))
def rh(j:List al):Prop:= ∀p∈j,aW p.ai=true
variable {q:bO}
def iq.Dr{z:ax}(u:iq z q)(W:((dL z q).1.kind != 4)=false):bd q.name (dL z q).1.cut=true/\(back z.ag).length<(back (dL z q).1.cut).length/\aR (dL z q).1.cut=true/\(dL z q).1.cut∈dv z.ag z.af:=by
 cases J:fF (vw z q)with
 |false =>
  have:=(u.aas J).1;simp only[bne,this]at W;cases W
 |true =>
  obtain⟨s0,R,h1,h2,Y,_⟩:=u.RF J;rw[Y];have G:dh z q.name≠[]:=by intro e;rw[yq,e]at J;cases J
  have H:dh z q.name∈dv z.ag z.af/\bd q.name (dh z q.name)=true:=by
   unfold dh at G ⊢;cases N:(dv z.ag z.af).find? λc=>bd q.name c with
   |none=>rw[N]at G;exact absurd rfl G
   |some c=>exact⟨List.mem_of_find?_eq_some N,by have:=List.find?_some N;simpa using this⟩
  obtain⟨V,hu⟩:=H;have U:=u.ord;obtain⟨s,X,T,K⟩:=(jD z.ag _ z.af).1 V;have j:=U.under s X;have I:=U.name s X;unfold bD at j;rw[if_pos ⟨I,U.ag⟩,K]at j;refine⟨hu,?_,K ▸ I,V⟩;have D:=(gU _ _).1 j;have Z:=D.length_le;rcases Nat.lt_or_ge (back z.ag).length (back<|dh z q.name).length with h|h
  .exact h
  .have e:back z.ag=back (dh z q.name):=D.eq_of_length (by omega);have:dh z q.name=z.ag:=yn j ((gU _ _).2<|by rw[e];exact List.prefix_rfl);unfold eS at T;rw[K,this]at T;simp at T
def Ro(w:aQ)(W:w.ah.length<=100000):NQ.Fn cx 27 [.agg<|bF w] (.agg<|(IQ w<|gA w.ah).map .d) []:=by
 refine gr (fun|9=>[9]|_=>[]) bf mixed Tryz.func27 ?_;conv=>whnf
 refine ⟨Nat × List (Bs × Nat), fun x => ⟨[(2, .ptr 2 0), (3, .ptr 3 0), (13, .d<|.slice 3<|w.ah.map aP), (14, aj ((w.ah.map aP).length : Int)), (15, aj x.1)],
     [(2,.box [.nil 3,.nil 3,.d<|.str [],aj 0,aj 0,.nil 3,.nil 1,.d .jg]),(3,.box<|(bF w).map .d++[.omap 9]),(9,.smap<|tY x.2)]⟩,
  λx=>x.1<=w.ah.length/\lB w.ah x.2/\oS w.ah x.1 (w.ah.drop x.1) x.2=gA w.ah,λx=>w.ah.length-x.1,
  ⟨(0,[]),⟨Nat.zero_le _,(λa j h=>by cases h),rfl⟩,aI.keep⟩,λ⟨k,m⟩ ⟨U,G,D⟩=>?_⟩
 dsimp only at U G D ⊢;conv=>whnf
 refine aD ?_ ?_<;>intro h1
 .have I:k<w.ah.length:=by simpa using h1
  obtain⟨x,N⟩:∃x,w.ah[k]? =some x:=⟨_,ao I⟩
  rw[Vk N]at D;refine⟨aB k,aP x,aL N,M ?_⟩
  rw[Kv];have again:∀J,(J =if kU w.ah m x=true then ra x.ai.ag k m else m)->(k+1<=w.ah.length/\lB w.ah J /\oS w.ah (k+1) (w.ah.drop<|k+1) J =gA w.ah):=λJ e=>by
   refine⟨I,?_,by rw[e];exact D⟩;rw[e];split
   .exact G.put N
   .exact G
  cases K:iy x.ai.ag m with
  |none =>
   conv=>whnf
   (refine bJ<|M ?_)
   have H:kU w.ah m x=true:=by unfold kU;rw[K]
   refine⟨(k+1,ra x.ai.ag k m),again _<|by rw[if_pos H],by(show w.ah.length-(k+1)<w.ah.length-k;omega),aI.keep ⟨ae,ae,ae,ae,⟨bj<|by omega,rfl⟩,trivial⟩ ⟨ae,ae,⟨?_,rfl⟩,trivial⟩⟩;show some (Blk.smap<|cy x.ai.ag (.int .i64 (k:Int))<|tY m)=_
   rw[FA]
  |some j =>
   conv=>whnf
   (refine bJ<|M ?_)
   obtain⟨p,hp,V⟩:=G _ j K;refine⟨aB j,aP p,aL hp,M ?_⟩
   (refine⟨_,_,XD x p,M ?_⟩)
   have H:kU w.ah m x=ik x p:=by unfold kU;rw[K];dsimp only;rw[hp]
   refine aD ?_ ?_<;>intro T
   .have H:kU w.ah m x=true:=H.trans T;refine⟨(k+1,ra x.ai.ag k m),again _<|by rw[if_pos H],by(show w.ah.length-(k+1)<w.ah.length-k;omega),aI.keep ⟨ae,ae,ae,ae,⟨bj<|by omega,rfl⟩,trivial⟩ ⟨ae,ae,⟨?_,rfl⟩,trivial⟩⟩;show some (Blk.smap<|cy x.ai.ag (.int .i64 (k:Int))<|tY m)=_
    rw[FA]
   .have H:kU w.ah m x=false:=H.trans T;exact⟨(k+1,m),again _<|by rw[if_neg<|by rw[H];simp],by(show w.ah.length-(k+1)<w.ah.length-k;omega),aI.keep⟩
 .obtain rfl:k=w.ah.length:=by simp at h1;omega
  rw[List.drop_length]at D;obtain rfl:m=gA w.ah:=D;exact ak rfl rfl
def Ae(a:Bs):bd a [46]=true:=by
 rw[gU];show([]:List Bs) <+: _
 exact List.nil_prefix
def dC(j:List al)(q:bO):Ans×Bool:=iT j (gA j) q ((back q.name).length+2) [46]
def Iu(I:rh zs)(T:eO q=true)(N:lB zs m){a:Bs}(U:bd q.name a=true){f:Nat}(V:(back q.name).length+1<=f+(back a).length){i:Nat}(J:iy a m=some i)(hp:zs[i]? =some p)
 (K:((dL p.ai q).1.kind != 4)=false):iq p.ai q/\bd q.name (dL p.ai q).1.cut=true/\(back a).length<(back (dL p.ai q).1.cut).length/\1<=f:=by
 obtain⟨p',j,D⟩:=N a i J;rw[hp]at j;cases j;have u:iq p.ai q:=⟨I p<|aw hp,T,by rw[D];exact U⟩
 obtain⟨G,H,_⟩:=u.Dr K;rw[D]at H;refine⟨u,G,H,?_⟩;have:=((gU _ _).1 G).length_le;omega
def Iv(w:aQ)(q:bO)(K:rh w.ah)(U:eO q=true):NQ.Fn cx 28 [.agg<|IQ w<|gA w.ah,.agg<|eY q] (.tuple [.agg<|(jr (dC w.ah q).1).map .d,.d<|.bool (dC w.ah q).2]) []:=by
 refine bL bf mixed Tryz.func28 ?_;refine⟨Nat×Bs,λx=>⟨[(2,.ptr 2 0),(3,.ptr 3 0),(4,.ptr 4 0),(6,.d<|.str x.2)],[(2,.box<|(IQ w<|gA w.ah).map .d),(3,.box<|(eY q).map .d),(4,.box [aj 0,.nil 5,.d<|.str []])]⟩,
  λx=>bd q.name x.2=true/\(back q.name).length+1<=x.1+(back x.2).length/\iT w.ah (gA w.ah) q (x.1+1) x.2=dC w.ah q,λx=>x.1,
  ⟨((back q.name).length+1,[46]),⟨Ae q.name,by omega,rfl⟩,aI.keep⟩,λ⟨f,a⟩ ⟨N,J,j⟩=>?_⟩
 dsimp only at N J j ⊢;conv=>whnf
 refine⟨_,Pj a<|gA w.ah,?_⟩;unfold iT at j;cases G:iy a (gA w.ah)with
 |none =>
  rw[G]at j;conv=>whnf
  refine ak rfl ?_;rw[<- j];rfl
 |some i =>
  rw[G]at j;conv=>whnf
  try (refine bJ<|M ?_)
  obtain⟨p,hp,T⟩:=zZ w.ah a i G;have H :=K p<|aw hp;refine⟨aB i,aP p,aL hp,M ?_⟩
  (refine⟨_,_,Qe p.ai q<|by have:=(bt H).few;omega,M ?_⟩)
  dsimp only at j;rw[hp]at j;dsimp only at j;refine aD ?_ ?_<;>intro I
  .have D :((dL p.ai q).1.kind != 4)=true:=I;rw[if_pos D]at j;refine ak rfl ?_;rw[<- j];rfl
  .have D :((dL p.ai q).1.kind != 4)=false:=I;rw[if_neg<|by rw[D];simp]at j;obtain⟨u,V,W,X⟩:=Iu K U (zZ w.ah) N J G hp D;obtain⟨f,rfl⟩:∃g,f=g+1:=⟨f-1,by omega⟩
   exact⟨(f,(dL p.ai q).1.cut),⟨V,by dsimp only;omega,j⟩,by(show f<f+1;omega),aI.keep⟩
def zY{G:List al}{q:bO}(I:rh G)(K:eO q=true){m:List<|Bs×Nat}(J:lB G m):∀(f:Nat) (a:Bs),bd q.name a=true-> ∀x,iT G m q f a=(x,true)-> ∃p∈G,iq p.ai q/\x=(dL p.ai q).1/\(x.kind != 4)=true
 |0,a,N,x,h=>by cases h
 |f+1,a,N,x,h=>by
  unfold iT at h;cases H:iy a m with
  |none=>rw[H]at h;cases h
  |some i =>
   rw[H]at h;obtain⟨p,hp,T⟩:=J a i H;dsimp only at h;rw[hp]at h;dsimp only at h;have j:=aw hp;have u:iq p.ai q:=⟨I p j,K,by rw[T];exact N⟩
   cases D:((dL p.ai q).1.kind != 4)with
   |true=>rw[D,if_pos rfl]at h;cases h;exact⟨p,j,u,rfl,D⟩
   |false =>
    rw[D,if_neg<|by simp]at h;exact zY I K J f _ (u.Dr D).1 x h
def sA(j:rh zs)(D:eO q=true){x:Ans}(h:dC zs q=(x,true)):∃p∈zs,iq p.ai q/\x=(dL p.ai q).1/\(x.kind != 4)=true :=
 zY j D (zZ zs) _ _ (Ae q.name) x h
def SL{s:cH}(h:eE s=true)(D:s.type=3):∃d,s.data=[d]/\aR d.text=true:=by
 unfold eE at h;simp only[aK,Bool.not_eq_true',Bool.or_eq_false_iff,Bool.not_eq_false']at h;obtain⟨⟨⟨⟨_,_⟩,J⟩,G,_⟩,j⟩:=h;rw[D]at G j;have h1:s.data.length=1:=by
  have:(nO 3).single=true:=rfl;rw[this,gq]at G;have:(s.data.length:Int)=1:=by simpa using G
  omega
 obtain⟨d,I⟩:∃d,s.data=[d]:=List.length_eq_one_iff.1 h1;refine⟨d,I,?_⟩;rw[I]at j;have:=aG.1 j 0 (by simp);rw[xp (d:=d) (p:=d) rfl rfl]at this;unfold rQ at this;simp only[Bool.not_eq_true',Bool.or_eq_false_iff,Bool.not_eq_false']at this;have H:=this.1;unfold iA at H;simp only[aK]at H;have D:=H.2;have e:(nO 3).text=1:=rfl;rw[e]at D;simp only[si,if_true,aK]at D;exact D.1
def iq.Jh{z:ax}(u:iq z q)(j:(dL z q).1.kind=3):∃s R d,(dL z q).1.af=s::R/\s∈z.af/\s.set.type=3/\s.set.data=[d]/\aR d.text=true:=by
 have key:∀(H :bO) (G:List Int),H.type=3->(decide<|atI z.af H >=0)=true->(dL z q).1.af=dw z.af [] (atI z.af H ::G)-> ∃s R d,(dL z q).1.af=s::R/\s∈z.af/\s.set.type=3/\s.set.data=[d]/\aR d.text=true:=λH G ht N K=>by
  have hh:dG z.af H =true:=by
   have:=tv z.af H;cases Z:dG z.af H with
   |true=>rfl
   |false=>rw[Z]at this;simp at this N;omega
  obtain⟨k,s,h1,W,Y⟩:=wZ hh;have X:=aw W;have J:s.set.type=3:=by have:=congrArg Prod.snd Y;exact(show s.set.type=H.type from this).trans ht
  obtain⟨d,T,hv⟩:=SL (u.ord.set s X) J;refine⟨s,dw z.af ([]++[atI z.af H]) G,d,?_,X,J,T,hv⟩;rw[K,dw,if_neg<|by rw[h1];simp,h1];simp[W]
 rw[u.ans]at j key ⊢;dsimp only at j key ⊢;unfold hZ at j key ⊢;split at j
 .exfalso;rename_i U;unfold nL at j;rw[if_pos U]at j;simp at j
 rename_i U;rw[if_neg U]at key ⊢;split at j
 .simp[Dq]at j
 rename_i T;rw[if_neg T]at key ⊢;split at j
 .rename_i I;rw[if_pos I]at key ⊢;have:decide (atI z.af ⟨q.name,3⟩>=0)=true:=by unfold rI at I;simp only[aK]at I;exact I.1
  exact key ⟨q.name,3⟩ [] rfl this rfl
 rename_i I;rw[if_neg I]at key ⊢;split at j
 .exfalso;rename_i V;unfold ot at j;rw[if_pos V]at j;simp at j
 rename_i V;rw[if_neg V]at key ⊢;split at j
 .simp[Bb]at j
 rename_i hw;rw[if_neg hw]at key ⊢;split at j
 .rename_i D;rw[if_pos D]at key ⊢;have K:(bQ<|vw z q).af=z.af:=rC _;have:decide (atI z.af ⟨(bQ<|vw z q).eG,3⟩>=0)=true:=by unfold iC at D;simp only[aK]at D;rw[K]at D;exact D.1
  refine key ⟨(bQ<|vw z q).eG,3⟩ [kn (bQ<|vw z q).af (bQ<|vw z q).q.name] rfl this ?_;unfold oC;rw[K]
 rename_i D;split at j
 .exfalso;unfold oD at j;(try split at j)<;>simp at j
 .exfalso;unfold qR at j;(try split at j)<;>simp at j
def gB(D:List al):Nat->bO->List Signed->Ans×Int
 |0,_,_=>(pY,33)
 |f+1,q,j=>if (!(dC D q).2)=true then(pY,34)else if ((dC D q).1.kind != 3)=true then(⟨(dC D q).1.kind,j++(dC D q).1.af,(dC D q).1.cut⟩,0)
  else match (dC D q).1.af.head? with
   |some s=>(match s.set.data.head? with|some d=>gB D f ⟨d.text,q.type⟩<|j++[s]|none=>(pY,0))
   |none=>(pY,0)
def gC(w:aQ)(q:bO):Ans×Int:=if (cT w&&eO q)=false then(pY,1)else gB w.ah 9 q []
def yS{n:Nat}:∀(l j:List al),gN n j l=true-> ∀p∈l,aW p.ai=true/\0<=p.host/\p.host<(n:Int)
 |[],_,_,p,hp=>by cases hp
 |x::t,j,h,p,hp=>by
  unfold gN at h;simp only[aK,Bool.not_eq_true',Bool.or_eq_false_iff,Bool.not_eq_false',decide_eq_false_iff_not]at h;rcases List.mem_cons.1 hp with rfl|hp
  .exact⟨h.1.2,by omega,by omega⟩
  .exact yS t _ h.2 p hp
def di{w:aQ}(h:cT w=true):∀p∈w.ah,aW p.ai=true/\0<=p.host/\p.host<(w.ar.length:Int):=by
 unfold cT pH at h;simp only[aK]at h;exact yS _ _ h.1.2.1.2
structure yD(w:aQ):Prop where
 ar:w.ar.length<=1000
 ah:w.ah.length<=1000
 hints:w.hints.length<=1000
 few:∀p∈w.ah,sr p.ai=true
def Hw(w:aQ)(G:bO)(hi:w.ar.length<=1000)(N:w.ah.length<=100000)(hj:w.hints.length<=1000):NQ.Fn cx 10 [.agg<|bF w,.agg<|eY G] (.tuple [.agg<|(jr (gC w G).1).map .d,.d<|.int .i64 (gC w G).2]) []:=by
 refine bL bf mixed Tryz.func10 ?_
 (refine⟨_,_,Ia w (by omega) N<|by omega,M ?_⟩)
 have K:∀(b:Bool),(cT w&&eO G)=false->gC w G=(pY,1):=λ_ h=>by unfold gC;rw[if_pos h]
 repeat' (first|(refine⟨_,_,Vu G,M ?_⟩)|(refine aD ?_ ?_<;>intro h)|fail)
 .refine ak rfl ?_;rw[K true<|by simp_all];rfl
 .refine ak rfl ?_;rw[K true<|by simp_all];rfl
 have H:cT w=true:=by simpa using ‹(!cT w)=false›
 have T:eO G=true:=by simpa using ‹(!eO G)=false›
 have hg:rh w.ah:=λp hp=>(di H p hp).1
 have hc:gC w G=gB w.ah 9 G []:=by unfold gC;rw[if_neg<|by rw[H,T];simp]
 (refine⟨_,_,Ro w N,M ?_⟩)
 refine⟨bO×List Signed,λx=>⟨[(2,.ptr 2 0),(3,.ptr 3 0),(4,.ptr 4 0),(6,.ptr 6 0),(7,.own 7)],[(2,.box<|(bF w).map .d),(3,.box<|(eY x.1).map .d),(4,.box [aj 0,.nil 5,.d<|.str []]),(6,.box<|(IQ w<|gA w.ah).map .d),(7,.row 75 5<|x.2.map an)]⟩,
  λx=>eO x.1=true/\x.2.length<=8/\gB w.ah (9-x.2.length) x.1 x.2=gC w G,λx=>9-x.2.length,
  ⟨(G,[]),⟨T,by simp,by rw[hc];rfl⟩,(aI.kz 7 7 5 75 5 rfl rfl<|by decide).trans<|aI.keep⟩,λ⟨q,D⟩ ⟨J,Z,j⟩=>?_⟩
 dsimp only at J Z j ⊢;conv=>whnf
 obtain⟨f,hf⟩:∃f,9-D.length=f+1:=⟨8-D.length,by omega⟩
 rw[hf]at j;unfold gB at j
 (refine⟨_,_,Iv w q hg J,M ?_⟩)
 refine aD ?_ ?_<;>intro h1
 .rw[if_pos h1]at j;refine ak rfl ?_;rw[<- j];rfl
 rw[if_neg<|by rw[h1];simp]at j;have hb:(dC w.ah q).2=true:=by simpa using h1
 obtain⟨p,hn,u,I,hl⟩:=sA hg J (x:=(dC w.ah q).1) (by rw[<- hb]);have hd:(dC w.ah q).1.af.length<=1000:=by rw[I];exact Jl (λs U=>by have:=(jY u.val s U).1;omega) q
 refine aD ?_ ?_<;>intro W
 .rw[if_pos W]at j;refine⟨by(show(D.map an).length+((dC w.ah q).1.af.map an).length<=_);simp;omega,by(show((D.map an).length+((dC w.ah q).1.af.map an).length)*80<=_);simp;omega,M ?_⟩
  refine ak rfl ?_;rw[<- j];show AV.tuple _=AV.tuple _
  simp[jr];exact⟨rfl,rfl⟩
 rw[if_neg<|by rw[W];simp]at j;have Y:(dL p.ai q).1.kind=3:=by rw[<- I];simpa using W
 obtain⟨s,R,d,U,ho,hq,V,X⟩:=u.Jh Y;rw[<- I]at U;rw[U]at j;simp only[List.head?_cons,V]at j;refine aD ?_ ?_<;>intro h3
 .have ha:D.length=8:=by simp at h3;omega
  have:f=0:=by omega
  subst this;refine ak rfl ?_;rw[<- j];rfl
 .rw[U];refine⟨by decide,an s,rfl,M ?_⟩
  refine⟨by(show(D.map an).length+1<=_);simp;omega,by(show((D.map an).length+1)*80<=_);simp;omega,M ?_⟩
  refine⟨by decide,an s,rfl,M ?_⟩
  refine⟨by decide,aS d,(by rw[V];rfl:(s.set.data.map aS)[(0:Int).toNat]? =some (aS d)),M ?_⟩
  have ha:D.length<8:=by simp at h3;omega
  refine⟨(⟨d.text,q.type⟩,D++[s]),⟨?_,by simp;omega,?_⟩,by(show 9-(D++[s]).length<9-D.length);simp;omega,aI.keep ⟨ae,ae,ae,ae,ae,trivial⟩ ⟨ae,ae,ae,ae,⟨?_,rfl⟩,trivial⟩⟩
  .unfold eO at J ⊢;simp only[aK]at J ⊢;exact⟨⟨X,J.1.2⟩,J.2⟩
  .rw[<- j]
   congr 1
   simp;omega
  .show some (Blk.row _ _ (D.map an++[an s]) _)=_
   rw[List.map_append];rfl
