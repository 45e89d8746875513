/-
  Merged texts.
-/
import Derived.Test.YtjapjahfllomkaaGreatDoorMQrc
import Derived.Test.YtjapjahfllomkaaGreatDoorMLrc
set_option linter.all false
set_option maxRecDepth 100000
namespace NP
open NQ Go
structure ep where
 name:Bs
 addr:Int
 owner:Int
 deriving DecidableEq
structure aq where
 host:Int
 zone:az
 deriving DecidableEq
structure ay where
 hosts:List ep
 zones:List aq
 anchor:gG
 hints:List Int
def dV(h:ep):List D:=[.str h.name,.int .i64 h.addr,.int .i64 h.owner]
def bn(p:aq):List D:=[.int .i64 p.host,.str p.zone.apex,.slice 5 (p.zone.sets.map an)]
def bw(w:ay):List D:=[.slice 3 (w.hosts.map dV),.slice 3 (w.zones.map bn),.str w.anchor.name,.int .i64 w.anchor.type,.int .i64 w.anchor.life,.slice 3 (w.anchor.data.map bd),.slice 1 (w.hints.map λn=>[.int .i64 n])]
end NP
namespace Go.Proofs.YtjapjahfllomkaaGreatDoor
open NQ Go NP Go.RowKit
end Go.Proofs.YtjapjahfllomkaaGreatDoor
namespace NP
open NQ Go
def Jg(s:Bs):Int:=((ew s).1.length:Int)
end NP
namespace Go.Proofs.YtjapjahfllomkaaGreatDoor
open NQ Go NP Go.RowKit
end Go.Proofs.YtjapjahfllomkaaGreatDoor
namespace NP
open NQ Go
def JH(s:Bs):List aq->Bs×Int->Bs×Int
 |[],b=>b
 |p::t,b=>JH s t (if (bG s p.zone.apex).1=true/\b.2<Jg p.zone.apex then(p.zone.apex,Jg p.zone.apex)else b)
def hAt(s:Bs)(w:ay)(k:Nat):Bs×Int:=JH s ((w.zones.filter λp=>(bG s p.zone.apex).1).take k) ([], -1)
end NP
namespace Go.Proofs.YtjapjahfllomkaaGreatDoor
open NQ Go NP Go.RowKit
theorem Mi(p q:aq):NQ.Fn cx 196 [.agg (bn p),.agg (bn q)] (.d (.bool (decide ((dX p.zone).1>(dX q.zone).1)||(decide ((dX p.zone).1=(dX q.zone).1)&&decide (p.host<q.host))))) []:=by
 refine aB aP mixed Tryz.func196 (by kernel_rfl) rfl (ai rfl) ?_;conv=>whnf
 (refine⟨_,_,A6 p.zone,?_⟩;conv=>whnf)
 (refine⟨_,_,A6 q.zone,?_⟩;conv=>whnf)
 repeat' (first|(refine ae (λh=>?_) (λh=>?_) <;> (rw[h];conv=>whnf))|fail)
 all_goals (refine af rfl ?_;show AV.d (D.bool _)=AV.d (D.bool _);congr 2 <;> simp_all)
end Go.Proofs.YtjapjahfllomkaaGreatDoor
namespace NP
open NQ Go
def fY(n:Int):Bool:=decide (n>=1)&&decide (n<=1000000)
def tz(s:Bs):Bool:=(ew s).1.head? ==some [42]
theorem Nc{s:Bs}(h:ao s=true):tz s=fB s:=by
 rw[Br h];unfold tz ew;rw[if_pos h]
def zi(l:List Int):List (List D×D):=l.map λa=>([.tuple [.int .i64 a]],.bool true)
theorem tT(a:Int):∀l:List Int,eU (.int .i64 a) (zi l)=some (if l.contains a=true then some (.bool true)else none)
 |[]=>rfl
 |x::l=>by
  show(match eL (.int .i64 a) [.tuple [.int .i64 x]]with|some true=>_|some false=>eU (.int .i64 a) (zi l)|none=>none)=_
  have:eL (.int .i64 a) [.tuple [.int .i64 x]]=some (a==x):=by simp[eL]
  rw[this];cases h:(a==x)with
  | true => have e : a = x := by simpa using h
            subst e;simp
  |false=>simp only[List.contains_cons,h,dE];exact tT a l
theorem K1{a:Int}{l:List Int}(h:l.contains a=false):qJ (.int .i64 a) (.bool true) (zi l)=some (zi (l++[a])):=by
 rw[Ig (by rw[tT,h];rfl)];simp[zi]
def iu:List Int->List ep->Bool
 |_,[]=>true
 |seen,h::t=> !(!ao h.name||tz h.name||decide (h.owner<0)||decide (h.owner>=32))&& !(!fY h.addr||seen.contains h.addr)&&iu (seen++[h.addr]) t
def kz(l:List ep):Bool:=decide ((l.length:Int)<=64)&&iu [] l
theorem yr{l:List ep}{k:Nat}{h:ep}(hh:l[k]? =some h)(seen:List Int):iu seen (l.drop k)=(!(!ao h.name||tz h.name||decide (h.owner<0)||decide (h.owner>=32))&& !(!fY h.addr||seen.contains h.addr)&&iu (seen++[h.addr]) (l.drop (k+1))):=by
 rw[drop_cons hh];rfl
def nS(s:gG)(hints:List Int):Bool:=dL s&&(s.type==6)&&(s.name==[46])&&decide ((hints.length:Int)>=1)&&decide ((hints.length:Int)<=8)&&hints.all fY
end NP
namespace Go.Proofs.YtjapjahfllomkaaGreatDoor
open NQ Go NP Go.RowKit
theorem KN(q:aQ):NQ.Fn cx 123 [.agg (cL q)] (.d (.bool (bx q))) []:=by
 refine aB aP mixed Tryz.func123 (by kernel_rfl) rfl (ai rfl) ?_;conv=>whnf
 (refine⟨_,_,j9 q.name,?_⟩;conv=>whnf)
 repeat' (first|(refine ae (λh=>?_) (λh=>?_) <;> (rw[h];conv=>whnf))|(refine af rfl ?_;show AV.d (D.bool false)=_;(try simp only[aj]at *);simp only[bx, *, if_true,if_false,aD];done)|(refine af rfl ?_;show AV.d (D.bool true)=_;(try simp only[aj]at *);simp only[bx, *, if_true,if_false,aD];done)|fail)
 all_goals (refine af rfl ?_;show AV.d (D.bool _)=AV.d (D.bool _);congr 2;simp_all [bx])
theorem D8(n:Int):NQ.Fn cx 174 [.int .i64 n] (.d (.bool (fY n))) []:=by
 refine aB aP mixed Tryz.func174 (by kernel_rfl) rfl (ai rfl) ?_;conv=>whnf
 repeat' (first|(refine ae (λh=>?_) (λh=>?_) <;> (rw[h];conv=>whnf))|fail)
 all_goals (refine af rfl ?_;show AV.d (D.bool _)=AV.d (D.bool _);congr 2;unfold fY;simp only[*, if_true,if_false,aD])
theorem Na(n:Int):NQ.Fn cx 176 [.int .i64 n] (.d (.bool (!fY n))) []:=by
 refine aB aP mixed Tryz.func176 (by kernel_rfl) rfl (ai rfl) ?_;conv=>whnf
 (refine⟨_,_,D8 n,?_⟩;conv=>whnf)
 exact af rfl rfl
theorem Nb(s:Bs):NQ.Fn cx 173 [.str s] (.d (.bool (tz s))) []:=by
 refine aB aP mixed Tryz.func173 (by kernel_rfl) rfl (ai rfl) ?_;conv=>whnf
 (refine⟨_,_,Ai s,?_⟩;conv=>whnf)
 (refine ae (λh=>?_) (λh=>?_) <;> (rw[h];conv=>whnf))
 . cases hl:(ew s).1 with
   |nil=>rw[hl]at h;simp at h
   |cons x t =>
    refine⟨by decide,aJ x,rfl,?_⟩
    conv=>whnf
    refine af rfl ?_;show AV.d (D.bool _)=AV.d (D.bool _)
    congr 2
    unfold tz;rw[hl];simp
 . refine af rfl ?_;show AV.d (D.bool _)=AV.d (D.bool _)
   congr 2
   unfold tz;cases hl:(ew s).1 with
   |nil=>rfl
   |cons x t=>rw[hl]at h;simp at h
theorem JJ(l:List Int)(p:Int->Bool)(hn:l.length<=100000)(hf:∀s∈l,NQ.Fn cx 176 [.int .i64 s] (.d (.bool (p s))) []) :
 NQ.Fn cx 106 [.slice 1 (l.map bg),.fn 176 [] []] (.d (.int .i64 (match l.findIdx? p with|some k=>(k:Int)|none=> -1))) []:=by
 refine aB aP mixed Tryz.func106 (by kernel_rfl) rfl (ai rfl) ?_;conv=>whnf
 refine⟨Nat,λk=>⟨[(0,.d (.slice 1 (l.map bg))),(1,.d (.fn 176 [] [])),(6,.d (.slice 1 (l.map bg))),(7,.d (.int .i64 ((l.map bg).length:Int))),(8,.d (.int .i64 k))],[]⟩,λk=>k<=l.length/\ ∀j y,j<k->l[j]? =some y->p y=false,λk=>l.length-k,
  ⟨0,⟨by omega,λj y h=>by omega⟩,ag.keep ⟨ab,ab,ab,ab,ab,trivial⟩ trivial⟩,λk hk=>?_⟩
 obtain⟨hk,hall⟩:=hk
 conv=>whnf
 refine ae (λh1=>?_) (λh1=>?_) <;> (rw[h1];conv=>whnf)
 . have hlt:k<l.length:=by simp at h1;omega
   obtain⟨s,hs⟩:∃s,l[k]? =some s:=⟨_,ah hlt⟩
   refine⟨au k,bg s,aA hs,?_⟩
   conv=>whnf
   (refine⟨_,_,hf s (ar hs),?_⟩;conv=>whnf)
   refine ae (λh2=>?_) (λh2=>?_) <;> (rw[h2];conv=>whnf)
   . refine af rfl ?_;have:l.findIdx? p=some k:=by
      rw[List.findIdx?_eq_some_iff_getElem];obtain⟨g1,g2⟩:=av.1 hs;refine⟨g1,by rw[g2];exact h2,λj hj=>?_⟩;have:=hall j (l[j]) hj (ah (by omega));rw[this];decide
     rw[this];rfl
   . refine⟨k+1,⟨hlt,λj y hj hy=>?_⟩,by(show l.length-(k+1)<l.length-k;omega),ag.keep ⟨ab,ab,ab,ab,⟨ak (by omega),rfl⟩,trivial⟩ trivial⟩;rcases Nat.lt_succ_iff_lt_or_eq.1 hj with hj|rfl
     . exact hall j y hj hy
     . rw[hs]at hy;cases hy;exact h2
 . obtain rfl:k=l.length:=by simp at h1;omega
   refine af rfl ?_;have:l.findIdx? p=none:=by
    rw[List.findIdx?_eq_none_iff];intro x hx;obtain⟨i,hi⟩:=cE hx;exact hall i x (av.1 hi).1 hi
   rw[this];rfl
theorem D9(l:List Int)(hl:l.length<=100000):NQ.Fn cx 50 [.slice 1 (l.map bg),.fn 176 [] []] (.d (.bool (!l.all fY))) []:=by
 refine aB aP mixed Tryz.func50 (by kernel_rfl) rfl (ai rfl) ?_;conv=>whnf
 (refine⟨_,_,JJ l (λn=> !fY n) hl (λs _=>Na s),?_⟩;conv=>whnf)
 refine af rfl ?_;show AV.d (D.bool (decide ((match l.findIdx? (λn=> !fY n)with|some k=>(k:Int)|none=> -1)>=0)))=_
 congr 2
 cases h:l.findIdx? (λn=> !fY n)with
 |some k =>
  obtain⟨h1,h2,_⟩:=List.findIdx?_eq_some_iff_getElem.1 h;rw[decide_eq_true (au k)];have:l.all fY=false:=by
   rw[<- Bool.not_eq_true,ax];intro hall;rw[hall _ (List.getElem_mem h1)]at h2;cases h2
  rw[this];rfl
 |none =>
  have:l.all fY=true:=by
   rw[ax];intro x hx;have:=List.findIdx?_eq_none_iff.1 h x hx;simpa using this
  rw[this];rfl
theorem D2(s:gG)(hints:List Int)(hl:hints.length<=100000):NQ.Fn cx 100 [.agg (mO s),.slice 1 (hints.map bg)] (.d (.bool (nS s hints))) []:=by
 refine aB aP mixed Tryz.func100 (by kernel_rfl) rfl (ai rfl) ?_;conv=>whnf
 (refine⟨_,_,wB s,?_⟩;conv=>whnf)
 repeat' (first|(refine ae (λh=>?_) (λh=>?_) <;> (rw[h];conv=>whnf))|fail)
 all_goals first
  |(refine af rfl ?_;show AV.d (D.bool false)=_;(try simp only[aj]at *);unfold nS;simp_all;done)
  |skip
 all_goals first
  | ((refine ⟨_, _, D9 hints hl, ?_⟩; conv => whnf)
     refine af rfl ?_;show AV.d (D.bool _)=AV.d (D.bool _)
     congr 2
     (try simp only[aj]at *)
     unfold nS
     simp_all;done)
  |(refine af rfl ?_;show AV.d (D.bool false)=_;(try simp only[aj]at *);unfold nS;simp_all;omega)
theorem BL(l:List ep)(hl:l.length<=100000):NQ.Fn cx 98 [.slice 3 (l.map dV)] (.d (.bool (kz l))) []:=by
 refine aB aP mixed Tryz.func98 (by kernel_rfl) rfl (ai rfl) ?_;conv=>whnf
 rw[aj];refine ae (λh=>?_) (λh=>?_) <;> (rw[h];conv=>whnf)
 . refine af rfl ?_;show AV.d (D.bool _)=AV.d (D.bool _)
   congr 2
   unfold kz;simp at h;simp;omega
 have hle:kz l=iu [] l:=by unfold kz;simp at h;simp;omega
 rw[hle];refine⟨Nat,λk=>⟨[(10,.d (.slice 3 (l.map dV))),(11,.d (.int .i64 ((l.map dV).length:Int))),(12,.d (.int .i64 k)),(3,.omap 9)],[(9,.kmap (zi ((l.take k).map (·.addr))))]⟩,λk=>k<=l.length/\iu ((l.take k).map (·.addr)) (l.drop k)=iu [] l,λk=>l.length-k,
  ⟨0,⟨Nat.zero_le _,rfl⟩,ag.keep ⟨ab,ab,ab,ab,trivial⟩ ⟨ab,trivial⟩⟩,λk ⟨hk,hinv⟩=>?_⟩
 conv=>whnf
 refine ae (λh1=>?_) (λh1=>?_) <;> (rw[h1];conv=>whnf)
 . have hlt:k<l.length:=by simpa using h1
   obtain⟨x,hx⟩:∃x,l[k]? =some x:=⟨_,ah hlt⟩
   rw[yr hx]at hinv;refine⟨au k,dV x,aA hx,?_⟩
   conv=>whnf
   repeat' (first|(refine⟨_,_,j9 x.name,?_⟩;conv=>whnf)|(refine⟨_,_,Nb x.name,?_⟩;conv=>whnf)|(refine⟨_,_,D8 x.addr,?_⟩;conv=>whnf)|(refine ae (λh=>?_) (λh=>?_) <;> (rw[h];conv=>whnf))|(refine⟨_,tT x.addr _,?_⟩;cases hc:((l.take k).map (·.addr)).contains x.addr <;> (conv=>whnf))|fail)
   all_goals first
    |(refine af rfl ?_;show AV.d (D.bool false)=AV.d (D.bool _);rw[<- hinv];simp_all;done)
    | (refine ⟨_, K1 hc, ?_⟩
       conv=>whnf
       refine⟨k+1,⟨hlt,?_⟩,by(show l.length-(k+1)<l.length-k;omega),ag.keep ⟨ab,ab,⟨ak (by omega),rfl⟩,ab,trivial⟩ ⟨⟨?_,rfl⟩,trivial⟩⟩
       . rw[aV hx,List.map_append];rw[<- hinv];simp_all
       . rw[aV hx,List.map_append];rfl)
 . obtain rfl:k=l.length:=by simp at h1;omega
   refine af rfl ?_;rw[<- hinv,List.drop_length];rfl
end Go.Proofs.YtjapjahfllomkaaGreatDoor
namespace NP
open NQ Go
def pmap(l:List aq):List (List D×D):=l.map λp=>([.int .i64 p.host,.str p.zone.apex],.bool true)
def dx(p x:aq):Bool:=(p.host==x.host)&&(p.zone.apex==x.zone.apex)
theorem uX(p:aq):∀l:List aq,kB [.int .i64,.str] [.int .i64 p.host,.str p.zone.apex] (pmap l)=some (if l.any (dx p)=true then some (.bool true)else none)
 |[]=>rfl
 |x::l=>by
  show(match cA [.int .i64,.str] [.d (.int .i64 p.host),.d (.str p.zone.apex)] [.d (.int .i64 x.host),.d (.str x.zone.apex)]with|some true=>_|some false=>kB _ _ (pmap l)|none=>none)=_
  have:cA [.int .i64,.str] [.d (.int .i64 p.host),.d (.str p.zone.apex)] [.d (.int .i64 x.host),.d (.str x.zone.apex)]=some (dx p x):=by
   show some ((p.host==x.host)&&((p.zone.apex==x.zone.apex)&&true))=_
   rw[gU];rfl
  rw[this,List.any_cons];cases h:dx p x with
  |true=>simp
  |false=>simp only[dE];exact uX p l
theorem Mt{p:aq}{l:List aq}(h:l.any (dx p)=false):mH [.int .i64,.str] [.int .i64 p.host,.str p.zone.apex] (.bool true) (pmap l)=some (pmap (l++[p])):=by
 rw[yy (by rw[uX,h];rfl)];simp[pmap]
def apx(l:List aq):List (Bs×D):=l.foldl (λm p=>dC p.zone.apex (.bool true) m) []
theorem K4(l:List aq)(p:aq):apx (l++[p])=dC p.zone.apex (.bool true) (apx l):=by unfold apx;rw[List.foldl_append];rfl
def dA(n:Nat):List aq->List aq->Bool
 |_,[]=>true
 |seen,p::t=> !(decide (p.host<0)||decide (p.host>=(n:Int))||seen.any (dx p)|| !aW p.zone)&&dA n (seen++[p]) t
def jR(w:ay):Bool:=decide ((w.zones.length:Int)<=4000)&&dA w.hosts.length [] w.zones&&decide (((apx w.zones).length:Int)<=500)
theorem wb{n:Nat}{l:List aq}{k:Nat}{p:aq}(hp:l[k]? =some p)(seen:List aq):dA n seen (l.drop k)=(!(decide (p.host<0)||decide (p.host>=(n:Int))||seen.any (dx p)|| !aW p.zone)&&dA n (seen++[p]) (l.drop (k+1))):=by
 rw[drop_cons hp];rfl
def aU(w:ay):Bool:=kz w.hosts&&jR w&&nS w.anchor w.hints
end NP
namespace Go.Proofs.YtjapjahfllomkaaGreatDoor
open NQ Go NP Go.RowKit
theorem Af(w:ay)(hl:w.zones.length<=100000):NQ.Fn cx 99 [.agg (bw w)] (.d (.bool (jR w))) []:=by
 refine aB aP mixed Tryz.func99 (by kernel_rfl) rfl (ai rfl) ?_;conv=>whnf
 rw[aj];refine ae (λh=>?_) (λh=>?_) <;> (rw[h];conv=>whnf)
 . refine af rfl ?_;show AV.d (D.bool _)=AV.d (D.bool _)
   congr 2
   unfold jR;simp at h;simp;omega
 have hle:jR w=(dA w.hosts.length [] w.zones&&decide (((apx w.zones).length:Int)<=500)):=by
  have:decide ((w.zones.length:Int)<=4000)=true:=by simp at h ⊢;omega
  unfold jR;rw[this,dF]
 rw[hle];refine⟨Nat,λk=>⟨[(1,.ptr 1 0),(15,.d (.slice 3 (w.zones.map bn))),(16,.d (.int .i64 ((w.zones.map bn).length:Int))),(17,.d (.int .i64 k)),(3,.omap 12),(4,.omap 13)],[(1,.box ((bw w).map .d)),(12,.kmap (pmap (w.zones.take k))),(13,.smap (apx (w.zones.take k)))]⟩,λk=>k<=w.zones.length/\dA w.hosts.length (w.zones.take k) (w.zones.drop k)=dA w.hosts.length [] w.zones,λk=>w.zones.length-k,
  ⟨0,⟨Nat.zero_le _,rfl⟩,ag.keep ⟨ab,ab,ab,ab,ab,ab,trivial⟩ ⟨ab,ab,ab,trivial⟩⟩,λk ⟨hk,hinv⟩=>?_⟩
 conv=>whnf
 refine ae (λh1=>?_) (λh1=>?_) <;> (rw[h1];conv=>whnf)
 . have hlt:k<w.zones.length:=by simpa using h1
   obtain⟨x,hx⟩:∃x,w.zones[k]? =some x:=⟨_,ah hlt⟩
   rw[wb hx]at hinv;refine⟨au k,bn x,aA hx,?_⟩
   conv=>whnf
   repeat' (first|(refine⟨_,_,vq x.zone,?_⟩;conv=>whnf)|(refine ae (λh=>?_) (λh=>?_) <;> (rw[h];conv=>whnf))|(refine⟨_,uX x _,?_⟩;cases hc:(w.zones.take k).any (dx x) <;> (conv=>whnf))|fail)
   all_goals first
    |(refine af rfl ?_;show AV.d (D.bool false)=AV.d (D.bool _);rw[<- hinv];clear hinv hle;(try simp only[aj]at *);simp only[*, if_true,if_false,aD];done)
    | (refine ⟨_, Mt hc, ?_⟩
       conv=>whnf
       refine⟨k+1,⟨hlt,?_⟩,by(show w.zones.length-(k+1)<w.zones.length-k;omega),ag.keep ⟨ab,ab,ab,⟨ak (by omega),rfl⟩,ab,ab,trivial⟩ ⟨ab,⟨?_,rfl⟩,⟨?_,rfl⟩,trivial⟩⟩
       . rw[aV hx];rw[<- hinv];clear hinv hle;(try simp only[aj]at *);simp only[*, if_true,if_false,aD]
       . rw[aV hx];rfl
       . rw[aV hx,K4];rfl)
 . obtain rfl:k=w.zones.length:=by simp at h1;omega
   refine af rfl ?_;rw[<- hinv,List.drop_length,List.take_length];rfl
theorem Bq(w:ay)(h1:w.hosts.length<=100000)(h2:w.zones.length<=100000)(h3:w.hints.length<=100000):NQ.Fn cx 43 [.agg (bw w)] (.d (.bool (aU w))) []:=by
 refine aB aP mixed Tryz.func43 (by kernel_rfl) rfl (ai rfl) ?_;conv=>whnf
 (refine⟨_,_,BL w.hosts h1,?_⟩;conv=>whnf)
 refine ae (λh=>?_) (λh=>?_) <;> (rw[h];conv=>whnf)
 . (refine⟨_,_,Af w h2,?_⟩;conv=>whnf)
   refine ae (λh' =>?_) (λh' =>?_) <;> (rw[h'];conv=>whnf)
   . (refine⟨_,_,D2 w.anchor w.hints h3,?_⟩;conv=>whnf)
     refine af rfl ?_;unfold aU;rw[h,h'];rfl
   . refine af rfl ?_;unfold aU;rw[h,h'];rfl
 . refine af rfl ?_;unfold aU;rw[h];rfl
end Go.Proofs.YtjapjahfllomkaaGreatDoor
namespace NP
open NQ Go
def fH(a:Bs):List (Bs×Nat)->Option Nat
 |[]=>none
 |(b,i)::t=>if a=b then some i else fH a t
def nG(a:Bs)(i:Nat):List (Bs×Nat)->List (Bs×Nat)
 |[]=>[(a,i)]
 |(b,j)::t=>if a=b then(b,i)::t else(b,j)::nG a i t
def pQ(m:List (Bs×Nat)):List (Bs×D):=m.map λp=>(p.1,.int .i64 (p.2:Int))
theorem CV(a:Bs):∀m,cM a (pQ m)=(fH a m).map λi=>D.int .i64 (i:Int)
 |[]=>rfl
 |(b,i)::t=>by
  show(if a=b then _ else cM a (pQ t))=_
  unfold fH;split
  . rfl
  . exact CV a t
theorem zG(a:Bs)(i:Nat):∀m,dC a (.int .i64 (i:Int)) (pQ m)=pQ (nG a i m)
 |[]=>rfl
 |(b,j)::t=>by
  show(if a=b then _ else _::dC a _ (pQ t))=_
  unfold nG;split
  . rfl
  . rw[zG a i t];rfl
theorem FL(a:Bs):∀m,eU (.str a) ((pQ m).map cP)=some ((fH a m).map λi=>D.int .i64 (i:Int))
 |[]=>rfl
 |(b,i)::t=>by
  show(match eL (.str a) [.tuple [.str b]]with|some true=>_|some false=>eU (.str a) ((pQ t).map cP)|none=>none)=_
  have:eL (.str a) [.tuple [.str b]]=some (a==b):=rfl;rw[this];unfold fH;by_cases h:a=b
  . subst h;simp
  . have:(a==b)=false:=by simp[h]
    rw[this,if_neg h];exact FL a t
theorem oG(a b:Bs)(i:Nat):∀m,fH b (nG a i m)=if a=b then some i else fH b m
 |[]=>by
  simp only[nG,fH];by_cases h:a=b
  . rw[if_pos h.symm,if_pos h]
  . rw[if_neg (Ne.symm h),if_neg h]
 |(c,j)::t=>by
  unfold nG;by_cases hc:a=c
  . rw[if_pos hc];subst hc;unfold fH;by_cases h:b=a
    . rw[if_pos h,if_pos h.symm]
    . rw[if_neg h,if_neg h,if_neg (Ne.symm h)]
  . rw[if_neg hc];unfold fH;by_cases h:b=c
    . rw[if_pos h,if_pos h,if_neg (λe=>hc (e.trans h))]
    . rw[if_neg h,if_neg h];exact oG a b i t
def dI(p q:aq):Bool:=decide ((dX p.zone).1>(dX q.zone).1)||(decide ((dX p.zone).1=(dX q.zone).1)&&decide (p.host<q.host))
def iL(zs:List aq)(m:List (Bs×Nat))(p:aq):Bool:=match fH p.zone.apex m with
 |none=>true
 |some j=>(match zs[j]? with|some q=>dI p q|none=>false)
def lP(zs:List aq):Nat->List aq->List (Bs×Nat)->List (Bs×Nat)
 |_,[],m=>m
 |i,p::t,m=>lP zs (i+1) t (if iL zs m p=true then nG p.zone.apex i m else m)
def fy(zs:List aq):List (Bs×Nat):=lP zs 0 zs []
theorem Ky{zs l:List aq}{k:Nat}{p:aq}(hp:l[k]? =some p)(m:List (Bs×Nat)):lP zs k (l.drop k) m=lP zs (k+1) (l.drop (k+1)) (if iL zs m p=true then nG p.zone.apex k m else m):=by
 rw[drop_cons hp];rfl
def iV(zs:List aq)(m:List (Bs×Nat)):Prop:= ∀a j,fH a m=some j-> ∃p,zs[j]? =some p/\p.zone.apex=a
theorem iV.put{zs:List aq}{m:List (Bs×Nat)}(h:iV zs m){i:Nat}{p:aq}(hp:zs[i]? =some p):iV zs (nG p.zone.apex i m):=by
 intro a j hj;rw[oG]at hj;split at hj
 . cases hj;exact⟨p,hp,by assumption⟩
 . exact h a j hj
theorem iV.go{zs:List aq}:∀(l:List aq) (i:Nat) (m:List (Bs×Nat)),(∀j,l[j]? =zs[i+j]?)->iV zs m->iV zs (lP zs i l m)
 |[],i,m,_,h=>h
 |p::t,i,m,hl,h=>by
  unfold lP;refine iV.go t (i+1) _ (λj=>by have:=hl (j+1);simp at this;rw[this];congr 1;omega) ?_;split
  . exact h.put (by have:=hl 0;simpa using this.symm)
  . exact h
theorem qN(zs:List aq):iV zs (fy zs):=iV.go zs 0 [] (λj=>by rw[Nat.zero_add]) (λa j h=>by cases h)
def BX(w:ay)(m:List (Bs×Nat)):List D:=bw w++[.kmap ((pQ m).map cP)]
def iy(zs:List aq)(m:List (Bs×Nat))(q:aQ):Nat->Bs->Ans×Bool
 |0,_=>(jm,false)
 |f+1,a=>match fH a m with
  |none=>(jm,false)
  |some i=>(match zs[i]? with
   |some p=>if ((cn p.zone q).1.kind != 4)=true then((cn p.zone q).1,true)else iy zs m q f (cn p.zone q).1.cut
   |none=>(jm,false))
def kT(zs:List aq):Prop:= ∀p∈zs,fh p.zone=true/\aW p.zone=true
theorem u3{z:az}{q:aQ}(u:Use z q)(hk:((cn z q).1.kind != 4)=false):aF q.name (cn z q).1.cut=true/\(back z.apex).length<(back (cn z q).1.cut).length/\ao (cn z q).1.cut=true/\(cn z q).1.cut∈cB z.apex z.sets:=by
 cases hr:fq (vw z q)with
 |false =>
  have:=(u.OE hr).1;simp only[bne,this]at hk;cases hk
 |true =>
  obtain⟨s0,R,h1,h2,h3,_⟩:=u.Qe hr;rw[h3];have hne:bo z q.name≠[]:=by intro e;rw[D7,e]at hr;cases hr
  have hcut:bo z q.name∈cB z.apex z.sets/\aF q.name (bo z q.name)=true:=by
   unfold bo at hne ⊢;cases hf:(cB z.apex z.sets).find? λc=>aF q.name c with
   |none=>rw[hf]at hne;exact absurd rfl hne
   |some c=>exact⟨List.mem_of_find?_eq_some hf,by have:=List.find?_some hf;simpa using this⟩
  obtain⟨hc,hu⟩:=hcut;have ho:=u.ord;obtain⟨s,hs,hi,he⟩:=(mj z.apex _ z.sets).1 hc;have hua:=ho.under s hs;have hsv:=ho.name s hs;unfold bG at hua;rw[if_pos ⟨hsv,ho.apex⟩,he]at hua;refine⟨hu,?_,he ▸ hsv,hc⟩;have hpre:=(dK _ _).1 hua;have hle:=hpre.length_le;rcases Nat.lt_or_ge (back z.apex).length (back (bo z q.name)).length with h|h
  . exact h
  . have e:back z.apex=back (bo z q.name):=hpre.eq_of_length (by omega);have:bo z q.name=z.apex:=pr hua ((dK _ _).2 (by rw[e];exact List.prefix_rfl));unfold dt at hi;rw[he,this]at hi;simp at hi
end NP
namespace Go.Proofs.YtjapjahfllomkaaGreatDoor
open NQ Go NP Go.RowKit
theorem Hm(w:ay)(hl:w.zones.length<=100000):NQ.Fn cx 124 [.agg (bw w)] (.agg ((BX w (fy w.zones)).map .d)) []:=by
 refine cK (fun|9=>[9]|_=>[]) aP mixed Tryz.func124 (by kernel_rfl) rfl (ai rfl) ?_
 conv=>whnf
 refine ⟨Nat × List (Bs × Nat), fun x => ⟨[(2, .ptr 2 0), (3, .ptr 3 0), (13, .d (.slice 3 (w.zones.map bn))), (14, .d (.int .i64 ((w.zones.map bn).length : Int))), (15, .d (.int .i64 x.1))],
     [(2,.box [.nil 3,.nil 3,.d (.str []),.d (.int .i64 0),.d (.int .i64 0),.nil 3,.nil 1,.d .nmap]),(3,.box ((bw w).map .d++[.omap 9])),(9,.smap (pQ x.2))]⟩,
  λx=>x.1<=w.zones.length/\iV w.zones x.2/\lP w.zones x.1 (w.zones.drop x.1) x.2=fy w.zones,λx=>w.zones.length-x.1,
  ⟨(0,[]),⟨Nat.zero_le _,(λa j h=>by cases h),rfl⟩,ag.keep ⟨ab,ab,ab,ab,ab,trivial⟩ ⟨ab,ab,ab,trivial⟩⟩,λ⟨k,m⟩ ⟨hk,hok,hinv⟩=>?_⟩
 dsimp only at hk hok hinv ⊢
 conv=>whnf
 refine ae (λh1=>?_) (λh1=>?_) <;> (rw[h1];conv=>whnf)
 . have hlt:k<w.zones.length:=by simpa using h1
   obtain⟨x,hx⟩:∃x,w.zones[k]? =some x:=⟨_,ah hlt⟩
   rw[Ky hx]at hinv;refine⟨au k,bn x,aA hx,?_⟩
   conv=>whnf
   rw[CV];have again:∀m',(m' =if iL w.zones m x=true then nG x.zone.apex k m else m)->(k+1<=w.zones.length/\iV w.zones m' /\lP w.zones (k+1) (w.zones.drop (k+1)) m' =fy w.zones):=λm' e=>by
    refine⟨hlt,?_,by rw[e];exact hinv⟩;rw[e];split
    . exact hok.put hx
    . exact hok
   cases hf:fH x.zone.apex m with
   |none =>
    conv=>whnf
    (refine⟨(by kernel_rfl:bc _ _=true),?_⟩;conv=>whnf)
    have ht:iL w.zones m x=true:=by unfold iL;rw[hf]
    refine⟨(k+1,nG x.zone.apex k m),again _ (by rw[if_pos ht]),by(show w.zones.length-(k+1)<w.zones.length-k;omega),ag.keep ⟨ab,ab,ab,ab,⟨ak (by omega),rfl⟩,trivial⟩ ⟨ab,ab,⟨?_,rfl⟩,trivial⟩⟩;show some (Blk.smap (dC x.zone.apex (.int .i64 (k:Int)) (pQ m)))=_
    rw[zG]
   |some j =>
    conv=>whnf
    (refine⟨(by kernel_rfl:bc _ _=true),?_⟩;conv=>whnf)
    obtain⟨p,hp,hpa⟩:=hok _ j hf;refine⟨au j,bn p,aA hp,?_⟩
    conv=>whnf
    (refine⟨_,_,Mi x p,?_⟩;conv=>whnf)
    have ht:iL w.zones m x=dI x p:=by unfold iL;rw[hf];dsimp only;rw[hp]
    refine ae (λh2=>?_) (λh2=>?_) <;> (rw[h2];conv=>whnf)
    . have ht:iL w.zones m x=true:=ht.trans h2;refine⟨(k+1,nG x.zone.apex k m),again _ (by rw[if_pos ht]),by(show w.zones.length-(k+1)<w.zones.length-k;omega),ag.keep ⟨ab,ab,ab,ab,⟨ak (by omega),rfl⟩,trivial⟩ ⟨ab,ab,⟨?_,rfl⟩,trivial⟩⟩;show some (Blk.smap (dC x.zone.apex (.int .i64 (k:Int)) (pQ m)))=_
      rw[zG]
    . have ht:iL w.zones m x=false:=ht.trans h2;exact⟨(k+1,m),again _ (by rw[if_neg (by rw[ht];simp)]),by(show w.zones.length-(k+1)<w.zones.length-k;omega),ag.keep ⟨ab,ab,ab,ab,⟨ak (by omega),rfl⟩,trivial⟩ ⟨ab,ab,ab,trivial⟩⟩
 . obtain rfl:k=w.zones.length:=by simp at h1;omega
   rw[List.drop_length]at hinv;obtain rfl:m=fy w.zones:=hinv;exact af rfl rfl
end Go.Proofs.YtjapjahfllomkaaGreatDoor
namespace NP
open NQ Go
theorem kN(a:Bs):aF a [46]=true:=by
 rw[dK];show([]:List Bs) <+: _
 exact List.nil_prefix
def cF(zs:List aq)(q:aQ):Ans×Bool:=iy zs (fy zs) q ((back q.name).length+2) [46]
theorem vi{zs:List aq}{q:aQ}(hg:kT zs)(hq:bx q=true){m:List (Bs×Nat)}(hm:iV zs m){a:Bs}(hu:aF q.name a=true){f:Nat}(hf:(back q.name).length+1<=f+(back a).length){i:Nat}{p:aq}(hi:fH a m=some i)(hp:zs[i]? =some p)
 (hk:((cn p.zone q).1.kind != 4)=false):Use p.zone q/\aF q.name (cn p.zone q).1.cut=true/\(back a).length<(back (cn p.zone q).1.cut).length/\1<=f:=by
 obtain⟨p',hp',ha⟩:=hm a i hi;rw[hp]at hp';cases hp';obtain⟨g1,g2⟩:=hg p (ar hp);have u:Use p.zone q:=⟨g1,g2,hq,by rw[ha];exact hu⟩
 obtain⟨r1,r2,_⟩:=u3 u hk;rw[ha]at r2;refine⟨u,r1,r2,?_⟩;have:=((dK _ _).1 r1).length_le;omega
end NP
namespace Go.Proofs.YtjapjahfllomkaaGreatDoor
open NQ Go NP Go.RowKit
theorem BJ(w:ay)(q:aQ)(hg:kT w.zones)(hq:bx q=true):NQ.Fn cx 125 [.agg (BX w (fy w.zones)),.agg (cL q)] (.tuple [.agg ((ee (cF w.zones q).1).map .d),.d (.bool (cF w.zones q).2)]) []:=by
 refine cK (λ_=>[]) aP mixed Tryz.func125 (by kernel_rfl) rfl (ai rfl) ?_
 conv=>whnf
 refine⟨Nat×Bs,λx=>⟨[(2,.ptr 2 0),(3,.ptr 3 0),(4,.ptr 4 0),(6,.d (.str x.2))],[(2,.box ((BX w (fy w.zones)).map .d)),(3,.box ((cL q).map .d)),(4,.box [.d (.int .i64 0),.nil 5,.d (.str [])])]⟩,
  λx=>aF q.name x.2=true/\(back q.name).length+1<=x.1+(back x.2).length/\iy w.zones (fy w.zones) q (x.1+1) x.2=cF w.zones q,λx=>x.1,
  ⟨((back q.name).length+1,[46]),⟨kN q.name,by omega,rfl⟩,ag.keep ⟨ab,ab,ab,ab,trivial⟩ ⟨ab,ab,ab,trivial⟩⟩,λ⟨f,a⟩ ⟨hu,hf,hinv⟩=>?_⟩
 dsimp only at hu hf hinv ⊢
 conv=>whnf
 refine⟨_,FL a (fy w.zones),?_⟩;unfold iy at hinv;cases hfi:fH a (fy w.zones)with
 |none =>
  rw[hfi]at hinv
  conv=>whnf
  refine af rfl ?_;rw[<- hinv];rfl
 |some i =>
  rw[hfi]at hinv
  conv=>whnf
  try (refine⟨(by kernel_rfl:bc _ _=true),?_⟩;conv=>whnf)
  obtain⟨p,hp,hpa⟩:=qN w.zones a i hfi;have hg' :=hg p (ar hp);refine⟨au i,bn p,aA hp,?_⟩
  conv=>whnf
  (refine⟨_,_,IV p.zone q hg'.1,?_⟩;conv=>whnf)
  dsimp only at hinv;rw[hp]at hinv;dsimp only at hinv;refine ae (λh2=>?_) (λh2=>?_) <;> (rw[h2];conv=>whnf)
  . have h2' :((cn p.zone q).1.kind != 4)=true:=h2;rw[if_pos h2']at hinv;refine af rfl ?_;rw[<- hinv];rfl
  . have h2' :((cn p.zone q).1.kind != 4)=false:=h2;rw[if_neg (by rw[h2'];simp)]at hinv;obtain⟨u,r1,r2,r3⟩:=vi hg hq (qN w.zones) hu hf hfi hp h2';obtain⟨f,rfl⟩:∃g,f=g+1:=⟨f-1,by omega⟩
    exact⟨(f,(cn p.zone q).1.cut),⟨r1,by dsimp only;omega,hinv⟩,by(show f<f+1;omega),ag.keep ⟨ab,ab,ab,ab,trivial⟩ ⟨ab,ab,ab,trivial⟩⟩
end Go.Proofs.YtjapjahfllomkaaGreatDoor
namespace NP
open NQ Go
theorem vh{zs:List aq}{q:aQ}(hg:kT zs)(hq:bx q=true){m:List (Bs×Nat)}(hm:iV zs m):∀(f:Nat) (a:Bs),aF q.name a=true-> ∀x,iy zs m q f a=(x,true)-> ∃p∈zs,Use p.zone q/\x=(cn p.zone q).1/\(x.kind != 4)=true
 |0,a,hu,x,h=>by cases h
 |f+1,a,hu,x,h=>by
  unfold iy at h;cases hi:fH a m with
  |none=>rw[hi]at h;cases h
  |some i =>
   rw[hi]at h;obtain⟨p,hp,ha⟩:=hm a i hi;dsimp only at h;rw[hp]at h;dsimp only at h;have hmem:=ar hp;obtain⟨g1,g2⟩:=hg p hmem;have u:Use p.zone q:=⟨g1,g2,hq,by rw[ha];exact hu⟩
   cases hk:((cn p.zone q).1.kind != 4)with
   |true=>rw[hk,if_pos rfl]at h;cases h;exact⟨p,hmem,u,rfl,hk⟩
   |false =>
    rw[hk,if_neg (by simp)]at h;exact vh hg hq hm f _ (u3 u hk).1 x h
theorem qh{zs:List aq}{q:aQ}(hg:kT zs)(hq:bx q=true){x:Ans}(h:cF zs q=(x,true)):∃p∈zs,Use p.zone q/\x=(cn p.zone q).1/\(x.kind != 4)=true :=
 vh hg hq (qN zs) _ _ (kN q.name) x h
theorem IS{s:gG}(h:dL s=true)(ht:s.type=3):∃d,s.data=[d]/\ao d.text=true:=by
 unfold dL at h;simp only[aC,Bool.not_eq_true',Bool.or_eq_false_iff,Bool.not_eq_false']at h;obtain⟨⟨⟨⟨_,_⟩,hw⟩,hs,_⟩,hall⟩:=h;rw[ht]at hs hall;have h1:s.data.length=1:=by
  have:(eH 3).single=true:=rfl;rw[this,dF]at hs;have:(s.data.length:Int)=1:=by simpa using hs
  omega
 obtain⟨d,hd⟩:∃d,s.data=[d]:=List.length_eq_one_iff.1 h1;refine⟨d,hd,?_⟩;rw[hd]at hall;have:=ax.1 hall 0 (by simp);rw[sC (d:=d) (p:=d) rfl rfl]at this;unfold mD at this;simp only[Bool.not_eq_true',Bool.or_eq_false_iff,Bool.not_eq_false']at this;have hv:=this.1;unfold dZ at hv;simp only[aC]at hv;have ht:=hv.2;have e:(eH 3).text=1:=rfl;rw[e]at ht;simp only[jh,if_true,aC]at ht;exact ht.1
theorem Use.B9{z:az}{q:aQ}(u:Use z q)(hk:(cn z q).1.kind=3):∃s R d,(cn z q).1.sets=s::R/\s∈z.sets/\s.set.type=3/\s.set.data=[d]/\ao d.text=true:=by
 have key:∀(q' :aQ) (rest:List Int),q'.type=3->(decide (atI z.sets q' >=0))=true->(cn z q).1.sets=cd z.sets [] (atI z.sets q' ::rest)-> ∃s R d,(cn z q).1.sets=s::R/\s∈z.sets/\s.set.type=3/\s.set.data=[d]/\ao d.text=true:=λq' rest ht hat hs=>by
  have hh:bR z.sets q' =true:=by
   have:=iX z.sets q';cases hc:bR z.sets q' with
   |true=>rfl
   |false=>rw[hc]at this;simp at this hat;omega
  obtain⟨k,s,h1,h2,h3⟩:=nJ hh;have hm:=ar h2;have ht3:s.set.type=3:=by have:=congrArg Prod.snd h3;exact(show s.set.type=q'.type from this).trans ht
  obtain⟨d,hd,hv⟩:=IS (u.ord.set s hm) ht3;refine⟨s,cd z.sets ([]++[atI z.sets q']) rest,d,?_,hm,ht3,hd,hv⟩;rw[hs,cd,if_neg (by rw[h1];simp),h1];simp[h2]
 rw[u.ans]at hk key ⊢;dsimp only at hk key ⊢;unfold fQ at hk key ⊢;split at hk
 . exfalso;rename_i hr;unfold jM at hk;rw[if_pos hr]at hk;simp at hk
 rename_i hr;rw[if_neg hr]at key ⊢;split at hk
 . simp[yd]at hk
 rename_i hd;rw[if_neg hd]at key ⊢;split at hk
 . rename_i ha;rw[if_pos ha]at key ⊢;have:decide (atI z.sets ⟨q.name,3⟩>=0)=true:=by unfold n9 at ha;simp only[aC]at ha;exact ha.1
   exact key ⟨q.name,3⟩ [] rfl this rfl
 rename_i ha;rw[if_neg ha]at key ⊢;split at hk
 . exfalso;rename_i hx;unfold lj at hk;rw[if_pos hx]at hk;simp at hk
 rename_i hx;rw[if_neg hx]at key ⊢;split at hk
 . simp[y9]at hk
 rename_i hw;rw[if_neg hw]at key ⊢;split at hk
 . rename_i hwa;rw[if_pos hwa]at key ⊢;have hs:(b7 (vw z q)).sets=z.sets:=wy _;have:decide (atI z.sets ⟨(b7 (vw z q)).cO,3⟩>=0)=true:=by unfold gh at hwa;simp only[aC]at hwa;rw[hs]at hwa;exact hwa.1
   refine key ⟨(b7 (vw z q)).cO,3⟩ [eY (b7 (vw z q)).sets (b7 (vw z q)).q.name] rfl this ?_;unfold mY;rw[hs]
 rename_i hwa;split at hk
 . exfalso;unfold lB at hk;(try split at hk) <;> simp at hk
 . exfalso;unfold jW at hk;(try split at hk) <;> simp at hk
def fF(zs:List aq):Nat->aQ->List Signed->Ans×Int
 |0,_,_=>(jm,33)
 |f+1,q,kept=>if (!(cF zs q).2)=true then(jm,34)else if ((cF zs q).1.kind != 3)=true then(⟨(cF zs q).1.kind,kept++(cF zs q).1.sets,(cF zs q).1.cut⟩,0)
  else match (cF zs q).1.sets.head? with
   |some s=>(match s.set.data.head? with|some d=>fF zs f ⟨d.text,q.type⟩ (kept++[s])|none=>(jm,0))
   |none=>(jm,0)
def cN(w:ay)(q:aQ):Ans×Int:=if (aU w&&bx q)=false then(jm,1)else fF w.zones 9 q []
theorem ue{n:Nat}:∀(l seen:List aq),dA n seen l=true-> ∀p∈l,aW p.zone=true/\0<=p.host/\p.host<(n:Int)
 |[],_,_,p,hp=>by cases hp
 |x::t,seen,h,p,hp=>by
  unfold dA at h;simp only[aC,Bool.not_eq_true',Bool.or_eq_false_iff,Bool.not_eq_false',decide_eq_false_iff_not]at h;rcases List.mem_cons.1 hp with rfl|hp
  . exact⟨h.1.2,by omega,by omega⟩
  . exact ue t _ h.2 p hp
theorem bS{w:ay}(h:aU w=true):∀p∈w.zones,aW p.zone=true/\0<=p.host/\p.host<(w.hosts.length:Int):=by
 unfold aU jR at h;simp only[aC]at h;exact ue _ _ h.1.2.1.2
structure cU(w:ay):Prop where
 hosts:w.hosts.length<=1000
 zones:w.zones.length<=1000
 hints:w.hints.length<=1000
 few:∀p∈w.zones,fh p.zone=true
end NP
namespace Go.Proofs.YtjapjahfllomkaaGreatDoor
open NQ Go NP Go.RowKit
set_option maxHeartbeats 1000000 in
theorem D1(w:ay)(q0:aQ)(hF:cU w):NQ.Fn cx 66 [.agg (bw w),.agg (cL q0)] (.tuple [.agg ((ee (cN w q0).1).map .d),.d (.int .i64 (cN w q0).2)]) []:=by
 refine cK (λ_=>[]) aP mixed Tryz.func66 (by kernel_rfl) rfl (ai rfl) ?_
 conv=>whnf
 (refine⟨_,_,Bq w (by have:=hF.hosts;omega) (by have:=hF.zones;omega) (by have:=hF.hints;omega),?_⟩;conv=>whnf)
 have bad:∀(b:Bool),(aU w&&bx q0)=false->cN w q0=(jm,1):=λ_ h=>by unfold cN;rw[if_pos h]
 repeat' (first|(refine⟨_,_,KN q0,?_⟩;conv=>whnf)|(refine ae (λh=>?_) (λh=>?_) <;> (rw[h];conv=>whnf))|fail)
 . refine af rfl ?_;rw[bad true (by simp_all)];rfl
 . refine af rfl ?_;rw[bad true (by simp_all)];rfl
 have hval:aU w=true:=by simpa using ‹(!aU w)=false›
 have hq0:bx q0=true:=by simpa using ‹(!bx q0)=false›
 have hg:kT w.zones:=λp hp=>⟨hF.few p hp,(bS hval p hp).1⟩
 have htr:cN w q0=fF w.zones 9 q0 []:=by unfold cN;rw[if_neg (by rw[hval,hq0];simp)]
 (refine⟨_,_,Hm w (by have:=hF.zones;omega),?_⟩;conv=>whnf)
 refine⟨aQ×List Signed,λx=>⟨[(2,.ptr 2 0),(3,.ptr 3 0),(4,.ptr 4 0),(6,.ptr 6 0),(7,.own 7)],[(2,.box ((bw w).map .d)),(3,.box ((cL x.1).map .d)),(4,.box [.d (.int .i64 0),.nil 5,.d (.str [])]),(6,.box ((BX w (fy w.zones)).map .d)),(7,.row 74 5 (x.2.map an))]⟩,
  λx=>bx x.1=true/\x.2.length<=8/\fF w.zones (9-x.2.length) x.1 x.2=cN w q0,λx=>9-x.2.length,
  ⟨(q0,[]),⟨hq0,by simp,by rw[htr];rfl⟩,(ag.jX 7 7 5 74 5 rfl rfl (by decide)).trans (ag.keep ⟨ab,ab,ab,ab,ab,trivial⟩ ⟨ab,ab,ab,ab,ab,trivial⟩)⟩,λ⟨q,kept⟩ ⟨hq,hkl,hinv⟩=>?_⟩
 dsimp only at hq hkl hinv ⊢
 conv=>whnf
 obtain⟨f,hf⟩:∃f,9-kept.length=f+1:=⟨8-kept.length,by omega⟩
 rw[hf]at hinv;unfold fF at hinv
 (refine⟨_,_,BJ w q hg hq,?_⟩;conv=>whnf)
 refine ae (λh1=>?_) (λh1=>?_) <;> (rw[h1];conv=>whnf)
 . rw[if_pos h1]at hinv;refine af rfl ?_;rw[<- hinv];rfl
 rw[if_neg (by rw[h1];simp)]at hinv;have hok:(cF w.zones q).2=true:=by simpa using h1
 obtain⟨p,hpm,u,hpa,hp4⟩:=qh hg hq (x:=(cF w.zones q).1) (by rw[<- hok]);have hal:(cF w.zones q).1.sets.length<=1000:=by rw[hpa];exact zj u.few q
 refine ae (λh2=>?_) (λh2=>?_) <;> (rw[h2];conv=>whnf)
 . rw[if_pos h2]at hinv;refine⟨by(show(kept.map an).length+((cF w.zones q).1.sets.map an).length<=_);simp;omega,by(show((kept.map an).length+((cF w.zones q).1.sets.map an).length)*80<=_);simp;omega,?_⟩
   conv=>whnf
   refine af rfl ?_;rw[<- hinv];show AV.tuple _=AV.tuple _
   simp[ee];exact⟨rfl,rfl⟩
 rw[if_neg (by rw[h2];simp)]at hinv;have hk3:(cn p.zone q).1.kind=3:=by rw[<- hpa];simpa using h2
 obtain⟨s,R,d,hs,hsm,hst,hsd,hdv⟩:=u.B9 hk3;rw[<- hpa]at hs;rw[hs]at hinv;simp only[List.head?_cons,hsd]at hinv;refine ae (λh3=>?_) (λh3=>?_) <;> (rw[h3];conv=>whnf)
 . have hl8:kept.length=8:=by simp at h3;omega
   have:f=0:=by omega
   subst this;refine af rfl ?_;rw[<- hinv];rfl
 . rw[hs];refine⟨by decide,an s,rfl,?_⟩
   conv=>whnf
   refine⟨by(show(kept.map an).length+1<=_);simp;omega,by(show((kept.map an).length+1)*80<=_);simp;omega,?_⟩
   conv=>whnf
   refine⟨by decide,an s,rfl,?_⟩
   conv=>whnf
   refine⟨by decide,bd d,(by rw[hsd];rfl:(s.set.data.map bd)[(0:Int).toNat]? =some (bd d)),?_⟩
   conv=>whnf
   have hl8:kept.length<8:=by simp at h3;omega
   refine⟨(⟨d.text,q.type⟩,kept++[s]),⟨?_,by simp;omega,?_⟩,by(show 9-(kept++[s]).length<9-kept.length);simp;omega,ag.keep ⟨ab,ab,ab,ab,ab,trivial⟩ ⟨ab,ab,ab,ab,⟨?_,rfl⟩,trivial⟩⟩
   . unfold bx at hq ⊢;simp only[aC]at hq ⊢;exact⟨⟨hdv,hq.1.2⟩,hq.2⟩
   . rw[<- hinv]
     congr 1
     simp;omega
   . show some (Blk.row _ _ (kept.map an++[an s]) _)=_
     rw[List.map_append];rfl
end Go.Proofs.YtjapjahfllomkaaGreatDoor
