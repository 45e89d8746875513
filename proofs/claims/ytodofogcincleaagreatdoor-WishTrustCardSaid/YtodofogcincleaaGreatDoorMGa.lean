/-
  Merged texts.
-/
import Derived.Test.YtodofogcincleaaGreatDoorMQrg
import Derived.Test.YtodofogcincleaaGreatDoorLrbM
import Derived.Test.YtodofogcincleaaGreatDoorMLkc
set_option linter.all false
set_option maxRecDepth 100000
namespace Go.Proofs.YtodofogcincleaaGreatDoor
open NQ Go.RowKit
structure kb where
 name:Bs
 addr:Int
 owner:Int
 deriving DecidableEq
structure ao where
 host:Int
 ah:aO
 deriving DecidableEq
structure aZ where
 ay:List kb
 ai:List ao
 anchor:cG
 hints:List Int
def fJ(h:kb):List D:=[.str h.name,.int .i64 h.addr,.int .i64 h.owner]
def aR(p:ao):List D:=[.int .i64 p.host,.str p.ah.af,.slice 5 (p.ah.ak.map aw)]
def bu(w:aZ):List D:=[.slice 3 (w.ay.map fJ),.slice 3 (w.ai.map aR),.str w.anchor.name,.int .i64 w.anchor.type,.int .i64 w.anchor.aP,.slice 3 (w.anchor.data.map aQ),.slice 1 (w.hints.map λn=>[.int .i64 n])]
def MP(s:Bs):Int:=((gx s).1.length:Int)
def Nk(s:Bs):List ao->Bs×Int->Bs×Int
 |[],b=>b
 |p::t,b=>Nk s t (if (bK s p.ah.af).1=true/\b.2<MP p.ah.af then(p.ah.af,MP p.ah.af)else b)
def hAt(s:Bs)(w:aZ)(k:Nat):Bs×Int:=Nk s ((w.ai.filter λp=>(bK s p.ah.af).1).take k) ([], -1)
def mP(n:Int):Bool:=decide (n>=1)&&decide (n<=1000000)
def By(s:Bs):Bool:=(gx s).1.head? ==some [42]
def dJ(l:List Int):List (List D×D):=l.map λa=>([.tuple [.int .i64 a]],.bool true)
theorem oY(a:Int):∀l:List Int,qX (.int .i64 a) (dJ l)=some (if l.contains a=true then some (.bool true)else none)
 |[]=>rfl
 |x::l=>by
  show(match ky (.int .i64 a) [.tuple [.int .i64 x]]with|some true=>_|some false=>qX (.int .i64 a) (dJ l)|none=>none)=_
  have:ky (.int .i64 a) [.tuple [.int .i64 x]]=some (a==x):=by simp[ky]
  rw[this];cases h:(a==x)with
  | true => have e : a = x := by simpa using h
            subst e;simp
  |false=>simp only[List.contains_cons,h,ka];exact oY a l
theorem Es{a:Int}{l:List Int}(h:l.contains a=false):xG (.int .i64 a) (.bool true) (dJ l)=some (dJ (l++[a])):=by
 rw[LF (by rw[oY,h];rfl)];simp[dJ]
def oA:List Int->List kb->Bool
 |_,[]=>true
 |seen,h::t=> !(!bq h.name||By h.name||decide (h.owner<0)||decide (h.owner>=32))&& !(!mP h.addr||seen.contains h.addr)&&oA (seen++[h.addr]) t
def vW(l:List kb):Bool:=decide ((l.length:Int)<=64)&&oA [] l
theorem KJ{l:List kb}{k:Nat}{h:kb}(hh:l[k]? =some h)(seen:List Int):oA seen (l.drop k)=(!(!bq h.name||By h.name||decide (h.owner<0)||decide (h.owner>=32))&& !(!mP h.addr||seen.contains h.addr)&&oA (seen++[h.addr]) (l.drop (k+1))):=by
 rw[drop_cons hh];rfl
def AR(s:cG)(hints:List Int):Bool:=ee s&&(s.type==6)&&(s.name==[46])&&decide ((hints.length:Int)>=1)&&decide ((hints.length:Int)<=8)&&hints.all mP
theorem GR(n:Int):NQ.Fn cx 164 [.int .i64 n] (.d (.bool (mP n))) []:=by
 refine aT bo mixed Tryz.func164 ?_;conv=>whnf
 repeat' (first|(refine aj (λh=>?_) (λh=>?_) <;> (rw[h];conv=>whnf))|fail)
 all_goals (refine al rfl ?_;show AV.d (D.bool _)=AV.d (D.bool _);congr 2;unfold mP;simp only[*, if_true,if_false,aY])
theorem Rx(n:Int):NQ.Fn cx 166 [.int .i64 n] (.d (.bool (!mP n))) []:=by
 refine aT bo mixed Tryz.func166 ?_;conv=>whnf
 (refine⟨_,_,GR n,?_⟩;conv=>whnf)
 exact al rfl rfl
theorem Ry(s:Bs):NQ.Fn cx 163 [.str s] (.d (.bool (By s))) []:=by
 refine aT bo mixed Tryz.func163 ?_;conv=>whnf
 (refine⟨_,_,Mg s,?_⟩;conv=>whnf)
 (refine aj (λh=>?_) (λh=>?_) <;> (rw[h];conv=>whnf))
 .cases hl:(gx s).1 with
  |nil=>rw[hl]at h;simp at h
  |cons x t =>
   refine⟨by decide,ck x,rfl,?_⟩;conv=>whnf
   refine al rfl ?_;show AV.d (D.bool _)=AV.d (D.bool _)
   congr 2
   unfold By;rw[hl];simp
 .refine al rfl ?_;show AV.d (D.bool _)=AV.d (D.bool _)
  congr 2
  unfold By;cases hl:(gx s).1 with
  |nil=>rfl
  |cons x t=>rw[hl]at h;simp at h
theorem Nl(l:List Int)(p:Int->Bool)(hn:l.length<=100000)(hf:∀s∈l,NQ.Fn cx 166 [.int .i64 s] (.d (.bool (p s))) []) :
 NQ.Fn cx 214 [.slice 1 (l.map kx),.fn 166 [] []] (.d (.int .i64 (match l.findIdx? p with|some k=>(k:Int)|none=> -1))) []:=by
 refine aT bo mixed Tryz.func214 ?_;conv=>whnf
 refine⟨Nat,λk=>⟨[(0,.d (.slice 1 (l.map kx))),(1,.d (.fn 166 [] [])),(6,.d (.slice 1 (l.map kx))),(7,.d (.int .i64 ((l.map kx).length:Int))),(8,.d (.int .i64 k))],[]⟩,λk=>k<=l.length/\ ∀j y,j<k->l[j]? =some y->p y=false,λk=>l.length-k,
  ⟨0,⟨by omega,λj y h=>by omega⟩,aK.keep ⟨ae,ae,ae,ae,ae,trivial⟩ trivial⟩,λk hk=>?_⟩
 obtain⟨hk,ha⟩:=hk;conv=>whnf
 refine aj (λh1=>?_) (λh1=>?_) <;> (rw[h1];conv=>whnf)
 .have hb:k<l.length:=by simp at h1;omega
  obtain⟨s,hs⟩:∃s,l[k]? =some s:=⟨_,au hb⟩
  refine⟨aC k,kx s,aM hs,?_⟩;conv=>whnf
  (refine⟨_,_,hf s (aD hs),?_⟩;conv=>whnf)
  refine aj (λh2=>?_) (λh2=>?_) <;> (rw[h2];conv=>whnf)
  .refine al rfl ?_;have:l.findIdx? p=some k:=by
    rw[List.findIdx?_eq_some_iff_getElem];obtain⟨g1,g2⟩:=aB.1 hs;refine⟨g1,by rw[g2];exact h2,λj hj=>?_⟩;have:=ha j (l[j]) hj (au (by omega));rw[this];decide
   rw[this];rfl
  .refine⟨k+1,⟨hb,λj y hj hy=>?_⟩,by(show l.length-(k+1)<l.length-k;omega),aK.keep ⟨ae,ae,ae,ae,⟨ax (by omega),rfl⟩,trivial⟩ trivial⟩;rcases Nat.lt_succ_iff_lt_or_eq.1 hj with hj|rfl
   .exact ha j y hj hy
   .rw[hs]at hy;cases hy;exact h2
 .obtain rfl:k=l.length:=by simp at h1;omega
  refine al rfl ?_;have:l.findIdx? p=none:=by
   rw[List.findIdx?_eq_none_iff];intro x hx;obtain⟨i,hi⟩:=cQ hx;exact ha i x (aB.1 hi).1 hi
  rw[this];rfl
theorem GS(l:List Int)(hl:l.length<=100000):NQ.Fn cx 165 [.slice 1 (l.map kx),.fn 166 [] []] (.d (.bool (!l.all mP))) []:=by
 refine aT bo mixed Tryz.func165 ?_;conv=>whnf
 (refine⟨_,_,Nl l (λn=> !mP n) hl (λs _=>Rx s),?_⟩;conv=>whnf)
 refine al rfl ?_;show AV.d (D.bool (decide ((match l.findIdx? (λn=> !mP n)with|some k=>(k:Int)|none=> -1)>=0)))=_
 congr 2
 cases h:l.findIdx? (λn=> !mP n)with
 |some k =>
  obtain⟨h1,h2,_⟩:=List.findIdx?_eq_some_iff_getElem.1 h;rw[decide_eq_true (aC k)];have:l.all mP=false:=by
   rw[<- Bool.not_eq_true,aI];intro ha;rw[ha _ (List.getElem_mem h1)]at h2;cases h2
  rw[this];rfl
 |none =>
  have:l.all mP=true:=by
   rw[aI];intro x hx;have:=List.findIdx?_eq_none_iff.1 h x hx;simpa using this
  rw[this];rfl
theorem GL(s:cG)(hints:List Int)(hl:hints.length<=100000):NQ.Fn cx 105 [.agg (cg s),.slice 1 (hints.map kx)] (.d (.bool (AR s hints))) []:=by
 refine aT bo mixed Tryz.func105 ?_;conv=>whnf
 (refine⟨_,_,jI s,?_⟩;conv=>whnf)
 repeat' (first|(refine aj (λh=>?_) (λh=>?_) <;> (rw[h];conv=>whnf))|fail)
 all_goals first
  |(refine al rfl ?_;show AV.d (D.bool false)=_;(try simp only[aA]at *);unfold AR;simp_all;done)
  |skip
 all_goals first
  | ((refine ⟨_, _, GS hints hl, ?_⟩; conv => whnf)
     refine al rfl ?_;show AV.d (D.bool _)=AV.d (D.bool _)
     congr 2
     (try simp only[aA]at *)
     unfold AR
     simp_all;done)
  |(refine al rfl ?_;show AV.d (D.bool false)=_;(try simp only[aA]at *);unfold AR;simp_all;omega)
theorem DH(l:List kb)(hl:l.length<=100000):NQ.Fn cx 103 [.slice 3 (l.map fJ)] (.d (.bool (vW l))) []:=by
 refine aT bo mixed Tryz.func103 ?_;conv=>whnf
 rw[aA];refine aj (λh=>?_) (λh=>?_) <;> (rw[h];conv=>whnf)
 .refine al rfl ?_;show AV.d (D.bool _)=AV.d (D.bool _)
  congr 2
  unfold vW;simp at h;simp;omega
 have hle:vW l=oA [] l:=by unfold vW;simp at h;simp;omega
 rw[hle];refine⟨Nat,λk=>⟨[(10,.d (.slice 3 (l.map fJ))),(11,.d (.int .i64 ((l.map fJ).length:Int))),(12,.d (.int .i64 k)),(3,.omap 9)],[(9,.cY (dJ ((l.take k).map (·.addr))))]⟩,λk=>k<=l.length/\oA ((l.take k).map (·.addr)) (l.drop k)=oA [] l,λk=>l.length-k,
  ⟨0,⟨Nat.zero_le _,rfl⟩,aK.keep ⟨ae,ae,ae,ae,trivial⟩ ⟨ae,trivial⟩⟩,λk ⟨hk,hinv⟩=>?_⟩
 conv=>whnf
 refine aj (λh1=>?_) (λh1=>?_) <;> (rw[h1];conv=>whnf)
 .have hb:k<l.length:=by simpa using h1
  obtain⟨x,hx⟩:∃x,l[k]? =some x:=⟨_,au hb⟩
  rw[KJ hx]at hinv;refine⟨aC k,fJ x,aM hx,?_⟩;conv=>whnf
  repeat' (first|(refine⟨_,_,mU x.name,?_⟩;conv=>whnf)|(refine⟨_,_,Ry x.name,?_⟩;conv=>whnf)|(refine⟨_,_,GR x.addr,?_⟩;conv=>whnf)|(refine aj (λh=>?_) (λh=>?_) <;> (rw[h];conv=>whnf))|(refine⟨_,oY x.addr _,?_⟩;cases hc:((l.take k).map (·.addr)).contains x.addr <;> (conv=>whnf))|fail)
  all_goals first
   |(refine al rfl ?_;show AV.d (D.bool false)=AV.d (D.bool _);rw[<- hinv];simp_all;done)
   | (refine ⟨_, Es hc, ?_⟩
      conv=>whnf
      refine⟨k+1,⟨hb,?_⟩,by(show l.length-(k+1)<l.length-k;omega),aK.keep ⟨ae,ae,⟨ax (by omega),rfl⟩,ae,trivial⟩ ⟨⟨?_,rfl⟩,trivial⟩⟩
      .rw[bO hx,List.map_append];rw[<- hinv];simp_all
      .rw[bO hx,List.map_append];rfl)
 .obtain rfl:k=l.length:=by simp at h1;omega
  refine al rfl ?_;rw[<- hinv,List.drop_length];rfl
def pmap(l:List ao):List (List D×D):=l.map λp=>([.int .i64 p.host,.str p.ah.af],.bool true)
def qV(p x:ao):Bool:=(p.host==x.host)&&(p.ah.af==x.ah.af)
theorem wx(p:ao):∀l:List ao,qI [.int .i64,.str] [.int .i64 p.host,.str p.ah.af] (pmap l)=some (if l.any (qV p)=true then some (.bool true)else none)
 |[]=>rfl
 |x::l=>by
  show(match dN [.int .i64,.str] [.d (.int .i64 p.host),.d (.str p.ah.af)] [.d (.int .i64 x.host),.d (.str x.ah.af)]with|some true=>_|some false=>qI _ _ (pmap l)|none=>none)=_
  have:dN [.int .i64,.str] [.d (.int .i64 p.host),.d (.str p.ah.af)] [.d (.int .i64 x.host),.d (.str x.ah.af)]=some (qV p x):=by
   show some ((p.host==x.host)&&((p.ah.af==x.ah.af)&&true))=_
   rw[iG];rfl
  rw[this,List.any_cons];cases h:qV p x with
  |true=>simp
  |false=>simp only[ka];exact wx p l
theorem QP{p:ao}{l:List ao}(h:l.any (qV p)=false):xo [.int .i64,.str] [.int .i64 p.host,.str p.ah.af] (.bool true) (pmap l)=some (pmap (l++[p])):=by
 rw[KR (by rw[wx,h];rfl)];simp[pmap]
def apx(l:List ao):List (Bs×D):=l.foldl (λm p=>cM p.ah.af (.bool true) m) []
theorem Pe(l:List ao)(p:ao):apx (l++[p])=cM p.ah.af (.bool true) (apx l):=by unfold apx;rw[List.foldl_append];rfl
def kn(n:Nat):List ao->List ao->Bool
 |_,[]=>true
 |seen,p::t=> !(decide (p.host<0)||decide (p.host>=(n:Int))||seen.any (qV p)|| !bf p.ah)&&kn n (seen++[p]) t
def ql(w:aZ):Bool:=decide ((w.ai.length:Int)<=4000)&&kn w.ay.length [] w.ai&&decide (((apx w.ai).length:Int)<=500)
theorem Hn{n:Nat}{l:List ao}{k:Nat}{p:ao}(hp:l[k]? =some p)(seen:List ao):kn n seen (l.drop k)=(!(decide (p.host<0)||decide (p.host>=(n:Int))||seen.any (qV p)|| !bf p.ah)&&kn n (seen++[p]) (l.drop (k+1))):=by
 rw[drop_cons hp];rfl
def fm(w:aZ):Bool:=vW w.ay&&ql w&&AR w.anchor w.hints
theorem Cp(w:aZ)(hl:w.ai.length<=100000):NQ.Fn cx 104 [.agg (bu w)] (.d (.bool (ql w))) []:=by
 refine aT bo mixed Tryz.func104 ?_;conv=>whnf
 rw[aA];refine aj (λh=>?_) (λh=>?_) <;> (rw[h];conv=>whnf)
 .refine al rfl ?_;show AV.d (D.bool _)=AV.d (D.bool _)
  congr 2
  unfold ql;simp at h;simp;omega
 have hle:ql w=(kn w.ay.length [] w.ai&&decide (((apx w.ai).length:Int)<=500)):=by
  have:decide ((w.ai.length:Int)<=4000)=true:=by simp at h ⊢;omega
  unfold ql;rw[this,iS]
 rw[hle];refine⟨Nat,λk=>⟨[(1,.ptr 1 0),(15,.d (.slice 3 (w.ai.map aR))),(16,.d (.int .i64 ((w.ai.map aR).length:Int))),(17,.d (.int .i64 k)),(3,.omap 12),(4,.omap 13)],[(1,.box ((bu w).map .d)),(12,.cY (pmap (w.ai.take k))),(13,.smap (apx (w.ai.take k)))]⟩,λk=>k<=w.ai.length/\kn w.ay.length (w.ai.take k) (w.ai.drop k)=kn w.ay.length [] w.ai,λk=>w.ai.length-k,
  ⟨0,⟨Nat.zero_le _,rfl⟩,aK.keep ⟨ae,ae,ae,ae,ae,ae,trivial⟩ ⟨ae,ae,ae,trivial⟩⟩,λk ⟨hk,hinv⟩=>?_⟩
 conv=>whnf
 refine aj (λh1=>?_) (λh1=>?_) <;> (rw[h1];conv=>whnf)
 .have hb:k<w.ai.length:=by simpa using h1
  obtain⟨x,hx⟩:∃x,w.ai[k]? =some x:=⟨_,au hb⟩
  rw[Hn hx]at hinv;refine⟨aC k,aR x,aM hx,?_⟩;conv=>whnf
  repeat' (first|(refine⟨_,_,jB x.ah,?_⟩;conv=>whnf)|(refine aj (λh=>?_) (λh=>?_) <;> (rw[h];conv=>whnf))|(refine⟨_,wx x _,?_⟩;cases hc:(w.ai.take k).any (qV x) <;> (conv=>whnf))|fail)
  all_goals first
   |(refine al rfl ?_;show AV.d (D.bool false)=AV.d (D.bool _);rw[<- hinv];clear hinv hle;(try simp only[aA]at *);simp only[*, if_true,if_false,aY];done)
   | (refine ⟨_, QP hc, ?_⟩
      conv=>whnf
      refine⟨k+1,⟨hb,?_⟩,by(show w.ai.length-(k+1)<w.ai.length-k;omega),aK.keep ⟨ae,ae,ae,⟨ax (by omega),rfl⟩,ae,ae,trivial⟩ ⟨ae,⟨?_,rfl⟩,⟨?_,rfl⟩,trivial⟩⟩
      .rw[bO hx];rw[<- hinv];clear hinv hle;(try simp only[aA]at *);simp only[*, if_true,if_false,aY]
      .rw[bO hx];rfl
      .rw[bO hx,Pe];rfl)
 .obtain rfl:k=w.ai.length:=by simp at h1;omega
  refine al rfl ?_;rw[<- hinv,List.drop_length,List.take_length];rfl
theorem OJ(w:aZ)(h1:w.ay.length<=100000)(h2:w.ai.length<=100000)(h3:w.hints.length<=100000):NQ.Fn cx 55 [.agg (bu w)] (.d (.bool (fm w))) []:=by
 refine aT bo mixed Tryz.func55 ?_;conv=>whnf
 (refine⟨_,_,DH w.ay h1,?_⟩;conv=>whnf)
 refine aj (λh=>?_) (λh=>?_) <;> (rw[h];conv=>whnf)
 . (refine⟨_,_,Cp w h2,?_⟩;conv=>whnf)
   refine aj (λh' =>?_) (λh' =>?_) <;> (rw[h'];conv=>whnf)
   . (refine⟨_,_,GL w.anchor w.hints h3,?_⟩;conv=>whnf)
     refine al rfl ?_;unfold fm;rw[h,h'];rfl
   .refine al rfl ?_;unfold fm;rw[h,h'];rfl
 .refine al rfl ?_;unfold fm;rw[h];rfl
def kR(p q:ao):Bool:=decide ((tz p.ah).1>(tz q.ah).1)||(decide ((tz p.ah).1=(tz q.ah).1)&&decide (p.host<q.host))
theorem vw{n:Nat}:∀(l seen:List ao),kn n seen l=true-> ∀p∈l,bf p.ah=true/\0<=p.host/\p.host<(n:Int)
 |[],_,_,p,hp=>by cases hp
 |x::t,seen,h,p,hp=>by
  unfold kn at h;simp only[aU,Bool.not_eq_true',Bool.or_eq_false_iff,Bool.not_eq_false',decide_eq_false_iff_not]at h;rcases List.mem_cons.1 hp with rfl|hp
  .exact⟨h.1.2,by omega,by omega⟩
  .exact vw t _ h.2 p hp
theorem gN{w:aZ}(h:fm w=true):∀p∈w.ai,bf p.ah=true/\0<=p.host/\p.host<(w.ay.length:Int):=by
 unfold fm ql at h;simp only[aU]at h;exact vw _ _ h.1.2.1.2
structure va(w:aZ):Prop where
 ay:w.ay.length<=1000
 ai:w.ai.length<=1000
 hints:w.hints.length<=1000
 few:∀p∈w.ai,pC p.ah=true
end Go.Proofs.YtodofogcincleaaGreatDoor
