/-
  Merged texts.
-/
import Derived.Test.YtodofogcincleaaGreatDoorMQrg
import Derived.Test.YtodofogcincleaaGreatDoorLrbM
import Derived.Test.YtodofogcincleaaGreatDoorMLkc
set_option linter.all false
set_option maxRecDepth 100000
namespace NP
open NQ Go
structure iU where
 name:Bs
 addr:Int
 owner:Int
 deriving DecidableEq
structure al where
 host:Int
 zone:aD
 deriving DecidableEq
structure aL where
 hosts:List iU
 zones:List al
 anchor:cu
 hints:List Int
def eh(h:iU):List D:=[.str h.name,.int .i64 h.addr,.int .i64 h.owner]
def aA(p:al):List D:=[.int .i64 p.host,.str p.zone.apex,.slice 5 (p.zone.sets.map ak)]
def bt(w:aL):List D:=[.slice 3 (w.hosts.map eh),.slice 3 (w.zones.map aA),.str w.anchor.name,.int .i64 w.anchor.type,.int .i64 w.anchor.life,.slice 3 (w.anchor.data.map aG),.slice 1 (w.hints.map λn=>[.int .i64 n])]
end NP
namespace Go.Proofs.YtodofogcincleaaGreatDoor
open NQ Go NP Go.RowKit
end Go.Proofs.YtodofogcincleaaGreatDoor
namespace NP
open NQ Go
def Kh(s:Bs):Int:=((eY s).1.length:Int)
end NP
namespace Go.Proofs.YtodofogcincleaaGreatDoor
open NQ Go NP Go.RowKit
end Go.Proofs.YtodofogcincleaaGreatDoor
namespace NP
open NQ Go
def Ky(s:Bs):List al->Bs×Int->Bs×Int
 |[],b=>b
 |p::t,b=>Ky s t (if (bo s p.zone.apex).1=true/\b.2<Kh p.zone.apex then(p.zone.apex,Kh p.zone.apex)else b)
def hAt(s:Bs)(w:aL)(k:Nat):Bs×Int:=Ky s ((w.zones.filter λp=>(bo s p.zone.apex).1).take k) ([], -1)
end NP
namespace Go.Proofs.YtodofogcincleaaGreatDoor
open NQ Go NP Go.RowKit
end Go.Proofs.YtodofogcincleaaGreatDoor
namespace NP
open NQ Go
def lu(n:Int):Bool:=decide (n>=1)&&decide (n<=1000000)
def zq(s:Bs):Bool:=(eY s).1.head? ==some [42]
def cT(l:List Int):List (List D×D):=l.map λa=>([.tuple [.int .i64 a]],.bool true)
theorem nA(a:Int):∀l:List Int,pE (.int .i64 a) (cT l)=some (if l.contains a=true then some (.bool true)else none)
 |[]=>rfl
 |x::l=>by
  show(match jg (.int .i64 a) [.tuple [.int .i64 x]]with|some true=>_|some false=>pE (.int .i64 a) (cT l)|none=>none)=_
  have:jg (.int .i64 a) [.tuple [.int .i64 x]]=some (a==x):=by simp[jg]
  rw[this];cases h:(a==x)with
  | true => have e : a = x := by simpa using h
            subst e;simp
  |false=>simp only[List.contains_cons,h,ir];exact nA a l
theorem Cm{a:Int}{l:List Int}(h:l.contains a=false):vA (.int .i64 a) (.bool true) (cT l)=some (cT (l++[a])):=by
 rw[IY (by rw[nA,h];rfl)];simp[cT]
def mT:List Int->List iU->Bool
 |_,[]=>true
 |seen,h::t=> !(!aQ h.name||zq h.name||decide (h.owner<0)||decide (h.owner>=32))&& !(!lu h.addr||seen.contains h.addr)&&mT (seen++[h.addr]) t
def ue(l:List iU):Bool:=decide ((l.length:Int)<=64)&&mT [] l
theorem Ic{l:List iU}{k:Nat}{h:iU}(hh:l[k]? =some h)(seen:List Int):mT seen (l.drop k)=(!(!aQ h.name||zq h.name||decide (h.owner<0)||decide (h.owner>=32))&& !(!lu h.addr||seen.contains h.addr)&&mT (seen++[h.addr]) (l.drop (k+1))):=by
 rw[drop_cons hh];rfl
def yI(s:cu)(hints:List Int):Bool:=dC s&&(s.type==6)&&(s.name==[46])&&decide ((hints.length:Int)>=1)&&decide ((hints.length:Int)<=8)&&hints.all lu
end NP
namespace Go.Proofs.YtodofogcincleaaGreatDoor
open NQ Go NP Go.RowKit
theorem EA(n:Int):NQ.Fn cx 164 [.int .i64 n] (.d (.bool (lu n))) []:=by
 refine aK aV mixed Tryz.func164 (by kernel_rfl) rfl (ag rfl) ?_;conv=>whnf
 repeat' (first|(refine af (λh=>?_) (λh=>?_) <;> (rw[h];conv=>whnf))|fail)
 all_goals (refine aj rfl ?_;show AV.d (D.bool _)=AV.d (D.bool _);congr 2;unfold lu;simp only[*, if_true,if_false,aI])
theorem OG(n:Int):NQ.Fn cx 166 [.int .i64 n] (.d (.bool (!lu n))) []:=by
 refine aK aV mixed Tryz.func166 (by kernel_rfl) rfl (ag rfl) ?_;conv=>whnf
 (refine⟨_,_,EA n,?_⟩;conv=>whnf)
 exact aj rfl rfl
theorem OH(s:Bs):NQ.Fn cx 163 [.str s] (.d (.bool (zq s))) []:=by
 refine aK aV mixed Tryz.func163 (by kernel_rfl) rfl (ag rfl) ?_;conv=>whnf
 (refine⟨_,_,JA s,?_⟩;conv=>whnf)
 (refine af (λh=>?_) (λh=>?_) <;> (rw[h];conv=>whnf))
 . cases hl:(eY s).1 with
   |nil=>rw[hl]at h;simp at h
   |cons x t =>
    refine⟨by decide,ba x,rfl,?_⟩
    conv=>whnf
    refine aj rfl ?_;show AV.d (D.bool _)=AV.d (D.bool _)
    congr 2
    unfold zq;rw[hl];simp
 . refine aj rfl ?_;show AV.d (D.bool _)=AV.d (D.bool _)
   congr 2
   unfold zq;cases hl:(eY s).1 with
   |nil=>rfl
   |cons x t=>rw[hl]at h;simp at h
theorem Kz(l:List Int)(p:Int->Bool)(hn:l.length<=100000)(hf:∀s∈l,NQ.Fn cx 166 [.int .i64 s] (.d (.bool (p s))) []) :
 NQ.Fn cx 214 [.slice 1 (l.map jf),.fn 166 [] []] (.d (.int .i64 (match l.findIdx? p with|some k=>(k:Int)|none=> -1))) []:=by
 refine aK aV mixed Tryz.func214 (by kernel_rfl) rfl (ag rfl) ?_;conv=>whnf
 refine⟨Nat,λk=>⟨[(0,.d (.slice 1 (l.map jf))),(1,.d (.fn 166 [] [])),(6,.d (.slice 1 (l.map jf))),(7,.d (.int .i64 ((l.map jf).length:Int))),(8,.d (.int .i64 k))],[]⟩,λk=>k<=l.length/\ ∀j y,j<k->l[j]? =some y->p y=false,λk=>l.length-k,
  ⟨0,⟨by omega,λj y h=>by omega⟩,aC.keep ⟨ae,ae,ae,ae,ae,trivial⟩ trivial⟩,λk hk=>?_⟩
 obtain⟨hk,hall⟩:=hk
 conv=>whnf
 refine af (λh1=>?_) (λh1=>?_) <;> (rw[h1];conv=>whnf)
 . have hlt:k<l.length:=by simp at h1;omega
   obtain⟨s,hs⟩:∃s,l[k]? =some s:=⟨_,ai hlt⟩
   refine⟨aw k,jf s,aB hs,?_⟩
   conv=>whnf
   (refine⟨_,_,hf s (au hs),?_⟩;conv=>whnf)
   refine af (λh2=>?_) (λh2=>?_) <;> (rw[h2];conv=>whnf)
   . refine aj rfl ?_;have:l.findIdx? p=some k:=by
      rw[List.findIdx?_eq_some_iff_getElem];obtain⟨g1,g2⟩:=aq.1 hs;refine⟨g1,by rw[g2];exact h2,λj hj=>?_⟩;have:=hall j (l[j]) hj (ai (by omega));rw[this];decide
     rw[this];rfl
   . refine⟨k+1,⟨hlt,λj y hj hy=>?_⟩,by(show l.length-(k+1)<l.length-k;omega),aC.keep ⟨ae,ae,ae,ae,⟨ao (by omega),rfl⟩,trivial⟩ trivial⟩;rcases Nat.lt_succ_iff_lt_or_eq.1 hj with hj|rfl
     . exact hall j y hj hy
     . rw[hs]at hy;cases hy;exact h2
 . obtain rfl:k=l.length:=by simp at h1;omega
   refine aj rfl ?_;have:l.findIdx? p=none:=by
    rw[List.findIdx?_eq_none_iff];intro x hx;obtain⟨i,hi⟩:=ck hx;exact hall i x (aq.1 hi).1 hi
   rw[this];rfl
theorem EB(l:List Int)(hl:l.length<=100000):NQ.Fn cx 165 [.slice 1 (l.map jf),.fn 166 [] []] (.d (.bool (!l.all lu))) []:=by
 refine aK aV mixed Tryz.func165 (by kernel_rfl) rfl (ag rfl) ?_;conv=>whnf
 (refine⟨_,_,Kz l (λn=> !lu n) hl (λs _=>OG s),?_⟩;conv=>whnf)
 refine aj rfl ?_;show AV.d (D.bool (decide ((match l.findIdx? (λn=> !lu n)with|some k=>(k:Int)|none=> -1)>=0)))=_
 congr 2
 cases h:l.findIdx? (λn=> !lu n)with
 |some k =>
  obtain⟨h1,h2,_⟩:=List.findIdx?_eq_some_iff_getElem.1 h;rw[decide_eq_true (aw k)];have:l.all lu=false:=by
   rw[<- Bool.not_eq_true,ay];intro hall;rw[hall _ (List.getElem_mem h1)]at h2;cases h2
  rw[this];rfl
 |none =>
  have:l.all lu=true:=by
   rw[ay];intro x hx;have:=List.findIdx?_eq_none_iff.1 h x hx;simpa using this
  rw[this];rfl
theorem Eu(s:cu)(hints:List Int)(hl:hints.length<=100000):NQ.Fn cx 105 [.agg (bN s),.slice 1 (hints.map jf)] (.d (.bool (yI s hints))) []:=by
 refine aK aV mixed Tryz.func105 (by kernel_rfl) rfl (ag rfl) ?_;conv=>whnf
 (refine⟨_,_,ll s,?_⟩;conv=>whnf)
 repeat' (first|(refine af (λh=>?_) (λh=>?_) <;> (rw[h];conv=>whnf))|fail)
 all_goals first
  |(refine aj rfl ?_;show AV.d (D.bool false)=_;(try simp only[an]at *);unfold yI;simp_all;done)
  |skip
 all_goals first
  | ((refine ⟨_, _, EB hints hl, ?_⟩; conv => whnf)
     refine aj rfl ?_;show AV.d (D.bool _)=AV.d (D.bool _)
     congr 2
     (try simp only[an]at *)
     unfold yI
     simp_all;done)
  |(refine aj rfl ?_;show AV.d (D.bool false)=_;(try simp only[an]at *);unfold yI;simp_all;omega)
theorem BF(l:List iU)(hl:l.length<=100000):NQ.Fn cx 103 [.slice 3 (l.map eh)] (.d (.bool (ue l))) []:=by
 refine aK aV mixed Tryz.func103 (by kernel_rfl) rfl (ag rfl) ?_;conv=>whnf
 rw[an];refine af (λh=>?_) (λh=>?_) <;> (rw[h];conv=>whnf)
 . refine aj rfl ?_;show AV.d (D.bool _)=AV.d (D.bool _)
   congr 2
   unfold ue;simp at h;simp;omega
 have hle:ue l=mT [] l:=by unfold ue;simp at h;simp;omega
 rw[hle];refine⟨Nat,λk=>⟨[(10,.d (.slice 3 (l.map eh))),(11,.d (.int .i64 ((l.map eh).length:Int))),(12,.d (.int .i64 k)),(3,.omap 9)],[(9,.kmap (cT ((l.take k).map (·.addr))))]⟩,λk=>k<=l.length/\mT ((l.take k).map (·.addr)) (l.drop k)=mT [] l,λk=>l.length-k,
  ⟨0,⟨Nat.zero_le _,rfl⟩,aC.keep ⟨ae,ae,ae,ae,trivial⟩ ⟨ae,trivial⟩⟩,λk ⟨hk,hinv⟩=>?_⟩
 conv=>whnf
 refine af (λh1=>?_) (λh1=>?_) <;> (rw[h1];conv=>whnf)
 . have hlt:k<l.length:=by simpa using h1
   obtain⟨x,hx⟩:∃x,l[k]? =some x:=⟨_,ai hlt⟩
   rw[Ic hx]at hinv;refine⟨aw k,eh x,aB hx,?_⟩
   conv=>whnf
   repeat' (first|(refine⟨_,_,lC x.name,?_⟩;conv=>whnf)|(refine⟨_,_,OH x.name,?_⟩;conv=>whnf)|(refine⟨_,_,EA x.addr,?_⟩;conv=>whnf)|(refine af (λh=>?_) (λh=>?_) <;> (rw[h];conv=>whnf))|(refine⟨_,nA x.addr _,?_⟩;cases hc:((l.take k).map (·.addr)).contains x.addr <;> (conv=>whnf))|fail)
   all_goals first
    |(refine aj rfl ?_;show AV.d (D.bool false)=AV.d (D.bool _);rw[<- hinv];simp_all;done)
    | (refine ⟨_, Cm hc, ?_⟩
       conv=>whnf
       refine⟨k+1,⟨hlt,?_⟩,by(show l.length-(k+1)<l.length-k;omega),aC.keep ⟨ae,ae,⟨ao (by omega),rfl⟩,ae,trivial⟩ ⟨⟨?_,rfl⟩,trivial⟩⟩
       . rw[bK hx,List.map_append];rw[<- hinv];simp_all
       . rw[bK hx,List.map_append];rfl)
 . obtain rfl:k=l.length:=by simp at h1;omega
   refine aj rfl ?_;rw[<- hinv,List.drop_length];rfl
end Go.Proofs.YtodofogcincleaaGreatDoor
namespace NP
open NQ Go
def pmap(l:List al):List (List D×D):=l.map λp=>([.int .i64 p.host,.str p.zone.apex],.bool true)
def pC(p x:al):Bool:=(p.host==x.host)&&(p.zone.apex==x.zone.apex)
theorem uv(p:al):∀l:List al,pg [.int .i64,.str] [.int .i64 p.host,.str p.zone.apex] (pmap l)=some (if l.any (pC p)=true then some (.bool true)else none)
 |[]=>rfl
 |x::l=>by
  show(match cW [.int .i64,.str] [.d (.int .i64 p.host),.d (.str p.zone.apex)] [.d (.int .i64 x.host),.d (.str x.zone.apex)]with|some true=>_|some false=>pg _ _ (pmap l)|none=>none)=_
  have:cW [.int .i64,.str] [.d (.int .i64 p.host),.d (.str p.zone.apex)] [.d (.int .i64 x.host),.d (.str x.zone.apex)]=some (pC p x):=by
   show some ((p.host==x.host)&&((p.zone.apex==x.zone.apex)&&true))=_
   rw[iT];rfl
  rw[this,List.any_cons];cases h:pC p x with
  |true=>simp
  |false=>simp only[ir];exact uv p l
theorem NW{p:al}{l:List al}(h:l.any (pC p)=false):vh [.int .i64,.str] [.int .i64 p.host,.str p.zone.apex] (.bool true) (pmap l)=some (pmap (l++[p])):=by
 rw[Ik (by rw[uv,h];rfl)];simp[pmap]
def apx(l:List al):List (Bs×D):=l.foldl (λm p=>bT p.zone.apex (.bool true) m) []
theorem Mo(l:List al)(p:al):apx (l++[p])=bT p.zone.apex (.bool true) (apx l):=by unfold apx;rw[List.foldl_append];rfl
def iZ(n:Nat):List al->List al->Bool
 |_,[]=>true
 |seen,p::t=> !(decide (p.host<0)||decide (p.host>=(n:Int))||seen.any (pC p)|| !aR p.zone)&&iZ n (seen++[p]) t
def oJ(w:aL):Bool:=decide ((w.zones.length:Int)<=4000)&&iZ w.hosts.length [] w.zones&&decide (((apx w.zones).length:Int)<=500)
theorem ES{n:Nat}{l:List al}{k:Nat}{p:al}(hp:l[k]? =some p)(seen:List al):iZ n seen (l.drop k)=(!(decide (p.host<0)||decide (p.host>=(n:Int))||seen.any (pC p)|| !aR p.zone)&&iZ n (seen++[p]) (l.drop (k+1))):=by
 rw[drop_cons hp];rfl
def eG(w:aL):Bool:=ue w.hosts&&oJ w&&yI w.anchor w.hints
end NP
namespace Go.Proofs.YtodofogcincleaaGreatDoor
open NQ Go NP Go.RowKit
theorem Ao(w:aL)(hl:w.zones.length<=100000):NQ.Fn cx 104 [.agg (bt w)] (.d (.bool (oJ w))) []:=by
 refine aK aV mixed Tryz.func104 (by kernel_rfl) rfl (ag rfl) ?_;conv=>whnf
 rw[an];refine af (λh=>?_) (λh=>?_) <;> (rw[h];conv=>whnf)
 . refine aj rfl ?_;show AV.d (D.bool _)=AV.d (D.bool _)
   congr 2
   unfold oJ;simp at h;simp;omega
 have hle:oJ w=(iZ w.hosts.length [] w.zones&&decide (((apx w.zones).length:Int)<=500)):=by
  have:decide ((w.zones.length:Int)<=4000)=true:=by simp at h ⊢;omega
  unfold oJ;rw[this,gI]
 rw[hle];refine⟨Nat,λk=>⟨[(1,.ptr 1 0),(15,.d (.slice 3 (w.zones.map aA))),(16,.d (.int .i64 ((w.zones.map aA).length:Int))),(17,.d (.int .i64 k)),(3,.omap 12),(4,.omap 13)],[(1,.box ((bt w).map .d)),(12,.kmap (pmap (w.zones.take k))),(13,.smap (apx (w.zones.take k)))]⟩,λk=>k<=w.zones.length/\iZ w.hosts.length (w.zones.take k) (w.zones.drop k)=iZ w.hosts.length [] w.zones,λk=>w.zones.length-k,
  ⟨0,⟨Nat.zero_le _,rfl⟩,aC.keep ⟨ae,ae,ae,ae,ae,ae,trivial⟩ ⟨ae,ae,ae,trivial⟩⟩,λk ⟨hk,hinv⟩=>?_⟩
 conv=>whnf
 refine af (λh1=>?_) (λh1=>?_) <;> (rw[h1];conv=>whnf)
 . have hlt:k<w.zones.length:=by simpa using h1
   obtain⟨x,hx⟩:∃x,w.zones[k]? =some x:=⟨_,ai hlt⟩
   rw[ES hx]at hinv;refine⟨aw k,aA x,aB hx,?_⟩
   conv=>whnf
   repeat' (first|(refine⟨_,_,iw x.zone,?_⟩;conv=>whnf)|(refine af (λh=>?_) (λh=>?_) <;> (rw[h];conv=>whnf))|(refine⟨_,uv x _,?_⟩;cases hc:(w.zones.take k).any (pC x) <;> (conv=>whnf))|fail)
   all_goals first
    |(refine aj rfl ?_;show AV.d (D.bool false)=AV.d (D.bool _);rw[<- hinv];clear hinv hle;(try simp only[an]at *);simp only[*, if_true,if_false,aI];done)
    | (refine ⟨_, NW hc, ?_⟩
       conv=>whnf
       refine⟨k+1,⟨hlt,?_⟩,by(show w.zones.length-(k+1)<w.zones.length-k;omega),aC.keep ⟨ae,ae,ae,⟨ao (by omega),rfl⟩,ae,ae,trivial⟩ ⟨ae,⟨?_,rfl⟩,⟨?_,rfl⟩,trivial⟩⟩
       . rw[bK hx];rw[<- hinv];clear hinv hle;(try simp only[an]at *);simp only[*, if_true,if_false,aI]
       . rw[bK hx];rfl
       . rw[bK hx,Mo];rfl)
 . obtain rfl:k=w.zones.length:=by simp at h1;omega
   refine aj rfl ?_;rw[<- hinv,List.drop_length,List.take_length];rfl
theorem LQ(w:aL)(h1:w.hosts.length<=100000)(h2:w.zones.length<=100000)(h3:w.hints.length<=100000):NQ.Fn cx 55 [.agg (bt w)] (.d (.bool (eG w))) []:=by
 refine aK aV mixed Tryz.func55 (by kernel_rfl) rfl (ag rfl) ?_;conv=>whnf
 (refine⟨_,_,BF w.hosts h1,?_⟩;conv=>whnf)
 refine af (λh=>?_) (λh=>?_) <;> (rw[h];conv=>whnf)
 . (refine⟨_,_,Ao w h2,?_⟩;conv=>whnf)
   refine af (λh' =>?_) (λh' =>?_) <;> (rw[h'];conv=>whnf)
   . (refine⟨_,_,Eu w.anchor w.hints h3,?_⟩;conv=>whnf)
     refine aj rfl ?_;unfold eG;rw[h,h'];rfl
   . refine aj rfl ?_;unfold eG;rw[h,h'];rfl
 . refine aj rfl ?_;unfold eG;rw[h];rfl
end Go.Proofs.YtodofogcincleaaGreatDoor
namespace NP
open NQ Go
def jC(p q:al):Bool:=decide ((rN p.zone).1>(rN q.zone).1)||(decide ((rN p.zone).1=(rN q.zone).1)&&decide (p.host<q.host))
end NP
namespace Go.Proofs.YtodofogcincleaaGreatDoor
open NQ Go NP Go.RowKit
end Go.Proofs.YtodofogcincleaaGreatDoor
namespace NP
open NQ Go
theorem tF{n:Nat}:∀(l seen:List al),iZ n seen l=true-> ∀p∈l,aR p.zone=true/\0<=p.host/\p.host<(n:Int)
 |[],_,_,p,hp=>by cases hp
 |x::t,seen,h,p,hp=>by
  unfold iZ at h;simp only[aF,Bool.not_eq_true',Bool.or_eq_false_iff,Bool.not_eq_false',decide_eq_false_iff_not]at h;rcases List.mem_cons.1 hp with rfl|hp
  . exact⟨h.1.2,by omega,by omega⟩
  . exact tF t _ h.2 p hp
theorem gH{w:aL}(h:eG w=true):∀p∈w.zones,aR p.zone=true/\0<=p.host/\p.host<(w.hosts.length:Int):=by
 unfold eG oJ at h;simp only[aF]at h;exact tF _ _ h.1.2.1.2
structure tg(w:aL):Prop where
 hosts:w.hosts.length<=1000
 zones:w.zones.length<=1000
 hints:w.hints.length<=1000
 few:∀p∈w.zones,nS p.zone=true
end NP
namespace Go.Proofs.YtodofogcincleaaGreatDoor
open NQ Go NP Go.RowKit
end Go.Proofs.YtodofogcincleaaGreatDoor
