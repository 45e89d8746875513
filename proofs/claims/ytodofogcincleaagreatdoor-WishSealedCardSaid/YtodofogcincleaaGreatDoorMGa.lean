/-
  Merged texts.
-/
import Derived.Test.YtodofogcincleaaGreatDoorMQrg
import Derived.Test.YtodofogcincleaaGreatDoorLrbM
import Derived.Test.YtodofogcincleaaGreatDoorMLkc
set_option linter.all false
set_option maxRecDepth 100000
namespace NP
open NQ Go
structure jn where
 name:Bs
 addr:Int
 owner:Int
 deriving DecidableEq
structure ai where
 host:Int
 zone:aB
 deriving DecidableEq
structure aL where
 hosts:List jn
 zones:List ai
 anchor:ck
 hints:List Int
def eN(h:jn):List D:=[.str h.name,.int .i64 h.addr,.int .i64 h.owner]
def aC(p:ai):List D:=[.int .i64 p.host,.str p.zone.apex,.slice 5 (p.zone.sets.map ak)]
def bn(w:aL):List D:=[.slice 3 (w.hosts.map eN),.slice 3 (w.zones.map aC),.str w.anchor.name,.int .i64 w.anchor.type,.int .i64 w.anchor.life,.slice 3 (w.anchor.data.map aI),.slice 1 (w.hints.map λn=>[.int .i64 n])]
end NP
namespace Go.Proofs.YtodofogcincleaaGreatDoor
open NQ Go NP Go.RowKit
end Go.Proofs.YtodofogcincleaaGreatDoor
namespace NP
open NQ Go
def KU(s:Bs):Int:=((fk s).1.length:Int)
end NP
namespace Go.Proofs.YtodofogcincleaaGreatDoor
open NQ Go NP Go.RowKit
end Go.Proofs.YtodofogcincleaaGreatDoor
namespace NP
open NQ Go
def Lm(s:Bs):List ai->Bs×Int->Bs×Int
 |[],b=>b
 |p::t,b=>Lm s t (if (bl s p.zone.apex).1=true/\b.2<KU p.zone.apex then(p.zone.apex,KU p.zone.apex)else b)
def hAt(s:Bs)(w:aL)(k:Nat):Bs×Int:=Lm s ((w.zones.filter λp=>(bl s p.zone.apex).1).take k) ([], -1)
end NP
namespace Go.Proofs.YtodofogcincleaaGreatDoor
open NQ Go NP Go.RowKit
end Go.Proofs.YtodofogcincleaaGreatDoor
namespace NP
open NQ Go
def lV(n:Int):Bool:=decide (n>=1)&&decide (n<=1000000)
def zU(s:Bs):Bool:=(fk s).1.head? ==some [42]
def dg(l:List Int):List (List D×D):=l.map λa=>([.tuple [.int .i64 a]],.bool true)
theorem oe(a:Int):∀l:List Int,qk (.int .i64 a) (dg l)=some (if l.contains a=true then some (.bool true)else none)
 |[]=>rfl
 |x::l=>by
  show(match jC (.int .i64 a) [.tuple [.int .i64 x]]with|some true=>_|some false=>qk (.int .i64 a) (dg l)|none=>none)=_
  have:jC (.int .i64 a) [.tuple [.int .i64 x]]=some (a==x):=by simp[jC]
  rw[this];cases h:(a==x)with
  | true => have e : a = x := by simpa using h
            subst e;simp
  |false=>simp only[List.contains_cons,h,iJ];exact oe a l
theorem CP{a:Int}{l:List Int}(h:l.contains a=false):wb (.int .i64 a) (.bool true) (dg l)=some (dg (l++[a])):=by
 rw[JM (by rw[oe,h];rfl)];simp[dg]
def nD:List Int->List jn->Bool
 |_,[]=>true
 |seen,h::t=> !(!bc h.name||zU h.name||decide (h.owner<0)||decide (h.owner>=32))&& !(!lV h.addr||seen.contains h.addr)&&nD (seen++[h.addr]) t
def uL(l:List jn):Bool:=decide ((l.length:Int)<=64)&&nD [] l
theorem IT{l:List jn}{k:Nat}{h:jn}(hh:l[k]? =some h)(seen:List Int):nD seen (l.drop k)=(!(!bc h.name||zU h.name||decide (h.owner<0)||decide (h.owner>=32))&& !(!lV h.addr||seen.contains h.addr)&&nD (seen++[h.addr]) (l.drop (k+1))):=by
 rw[drop_cons hh];rfl
def zj(s:ck)(hints:List Int):Bool:=dG s&&(s.type==6)&&(s.name==[46])&&decide ((hints.length:Int)>=1)&&decide ((hints.length:Int)<=8)&&hints.all lV
end NP
namespace Go.Proofs.YtodofogcincleaaGreatDoor
open NQ Go NP Go.RowKit
theorem Fe(n:Int):NQ.Fn cx 164 [.int .i64 n] (.d (.bool (lV n))) []:=by
 refine aM aV mixed Tryz.func164 (by kernel_rfl) rfl (ag rfl) ?_;conv=>whnf
 repeat' (first|(refine af (λh=>?_) (λh=>?_) <;> (rw[h];conv=>whnf))|fail)
 all_goals (refine al rfl ?_;show AV.d (D.bool _)=AV.d (D.bool _);congr 2;unfold lV;simp only[*, if_true,if_false,aK])
theorem Po(n:Int):NQ.Fn cx 166 [.int .i64 n] (.d (.bool (!lV n))) []:=by
 refine aM aV mixed Tryz.func166 (by kernel_rfl) rfl (ag rfl) ?_;conv=>whnf
 (refine⟨_,_,Fe n,?_⟩;conv=>whnf)
 exact al rfl rfl
theorem Pp(s:Bs):NQ.Fn cx 163 [.str s] (.d (.bool (zU s))) []:=by
 refine aM aV mixed Tryz.func163 (by kernel_rfl) rfl (ag rfl) ?_;conv=>whnf
 (refine⟨_,_,Kp s,?_⟩;conv=>whnf)
 (refine af (λh=>?_) (λh=>?_) <;> (rw[h];conv=>whnf))
 . cases hl:(fk s).1 with
   |nil=>rw[hl]at h;simp at h
   |cons x t =>
    refine⟨by decide,bt x,rfl,?_⟩
    conv=>whnf
    refine al rfl ?_;show AV.d (D.bool _)=AV.d (D.bool _)
    congr 2
    unfold zU;rw[hl];simp
 . refine al rfl ?_;show AV.d (D.bool _)=AV.d (D.bool _)
   congr 2
   unfold zU;cases hl:(fk s).1 with
   |nil=>rfl
   |cons x t=>rw[hl]at h;simp at h
theorem Ln(l:List Int)(p:Int->Bool)(hn:l.length<=100000)(hf:∀s∈l,NQ.Fn cx 166 [.int .i64 s] (.d (.bool (p s))) []) :
 NQ.Fn cx 214 [.slice 1 (l.map jB),.fn 166 [] []] (.d (.int .i64 (match l.findIdx? p with|some k=>(k:Int)|none=> -1))) []:=by
 refine aM aV mixed Tryz.func214 (by kernel_rfl) rfl (ag rfl) ?_;conv=>whnf
 refine⟨Nat,λk=>⟨[(0,.d (.slice 1 (l.map jB))),(1,.d (.fn 166 [] [])),(6,.d (.slice 1 (l.map jB))),(7,.d (.int .i64 ((l.map jB).length:Int))),(8,.d (.int .i64 k))],[]⟩,λk=>k<=l.length/\ ∀j y,j<k->l[j]? =some y->p y=false,λk=>l.length-k,
  ⟨0,⟨by omega,λj y h=>by omega⟩,aF.keep ⟨ae,ae,ae,ae,ae,trivial⟩ trivial⟩,λk hk=>?_⟩
 obtain⟨hk,hall⟩:=hk
 conv=>whnf
 refine af (λh1=>?_) (λh1=>?_) <;> (rw[h1];conv=>whnf)
 . have hlt:k<l.length:=by simp at h1;omega
   obtain⟨s,hs⟩:∃s,l[k]? =some s:=⟨_,aj hlt⟩
   refine⟨aw k,jB s,aD hs,?_⟩
   conv=>whnf
   (refine⟨_,_,hf s (ar hs),?_⟩;conv=>whnf)
   refine af (λh2=>?_) (λh2=>?_) <;> (rw[h2];conv=>whnf)
   . refine al rfl ?_;have:l.findIdx? p=some k:=by
      rw[List.findIdx?_eq_some_iff_getElem];obtain⟨g1,g2⟩:=aq.1 hs;refine⟨g1,by rw[g2];exact h2,λj hj=>?_⟩;have:=hall j (l[j]) hj (aj (by omega));rw[this];decide
     rw[this];rfl
   . refine⟨k+1,⟨hlt,λj y hj hy=>?_⟩,by(show l.length-(k+1)<l.length-k;omega),aF.keep ⟨ae,ae,ae,ae,⟨an (by omega),rfl⟩,trivial⟩ trivial⟩;rcases Nat.lt_succ_iff_lt_or_eq.1 hj with hj|rfl
     . exact hall j y hj hy
     . rw[hs]at hy;cases hy;exact h2
 . obtain rfl:k=l.length:=by simp at h1;omega
   refine al rfl ?_;have:l.findIdx? p=none:=by
    rw[List.findIdx?_eq_none_iff];intro x hx;obtain⟨i,hi⟩:=cd hx;exact hall i x (aq.1 hi).1 hi
   rw[this];rfl
theorem Ff(l:List Int)(hl:l.length<=100000):NQ.Fn cx 165 [.slice 1 (l.map jB),.fn 166 [] []] (.d (.bool (!l.all lV))) []:=by
 refine aM aV mixed Tryz.func165 (by kernel_rfl) rfl (ag rfl) ?_;conv=>whnf
 (refine⟨_,_,Ln l (λn=> !lV n) hl (λs _=>Po s),?_⟩;conv=>whnf)
 refine al rfl ?_;show AV.d (D.bool (decide ((match l.findIdx? (λn=> !lV n)with|some k=>(k:Int)|none=> -1)>=0)))=_
 congr 2
 cases h:l.findIdx? (λn=> !lV n)with
 |some k =>
  obtain⟨h1,h2,_⟩:=List.findIdx?_eq_some_iff_getElem.1 h;rw[decide_eq_true (aw k)];have:l.all lV=false:=by
   rw[<- Bool.not_eq_true,ay];intro hall;rw[hall _ (List.getElem_mem h1)]at h2;cases h2
  rw[this];rfl
 |none =>
  have:l.all lV=true:=by
   rw[ay];intro x hx;have:=List.findIdx?_eq_none_iff.1 h x hx;simpa using this
  rw[this];rfl
theorem EY(s:ck)(hints:List Int)(hl:hints.length<=100000):NQ.Fn cx 105 [.agg (bJ s),.slice 1 (hints.map jB)] (.d (.bool (zj s hints))) []:=by
 refine aM aV mixed Tryz.func105 (by kernel_rfl) rfl (ag rfl) ?_;conv=>whnf
 (refine⟨_,_,lP s,?_⟩;conv=>whnf)
 repeat' (first|(refine af (λh=>?_) (λh=>?_) <;> (rw[h];conv=>whnf))|fail)
 all_goals first
  |(refine al rfl ?_;show AV.d (D.bool false)=_;(try simp only[ao]at *);unfold zj;simp_all;done)
  |skip
 all_goals first
  | ((refine ⟨_, _, Ff hints hl, ?_⟩; conv => whnf)
     refine al rfl ?_;show AV.d (D.bool _)=AV.d (D.bool _)
     congr 2
     (try simp only[ao]at *)
     unfold zj
     simp_all;done)
  |(refine al rfl ?_;show AV.d (D.bool false)=_;(try simp only[ao]at *);unfold zj;simp_all;omega)
theorem Cj(l:List jn)(hl:l.length<=100000):NQ.Fn cx 103 [.slice 3 (l.map eN)] (.d (.bool (uL l))) []:=by
 refine aM aV mixed Tryz.func103 (by kernel_rfl) rfl (ag rfl) ?_;conv=>whnf
 rw[ao];refine af (λh=>?_) (λh=>?_) <;> (rw[h];conv=>whnf)
 . refine al rfl ?_;show AV.d (D.bool _)=AV.d (D.bool _)
   congr 2
   unfold uL;simp at h;simp;omega
 have hle:uL l=nD [] l:=by unfold uL;simp at h;simp;omega
 rw[hle];refine⟨Nat,λk=>⟨[(10,.d (.slice 3 (l.map eN))),(11,.d (.int .i64 ((l.map eN).length:Int))),(12,.d (.int .i64 k)),(3,.omap 9)],[(9,.kmap (dg ((l.take k).map (·.addr))))]⟩,λk=>k<=l.length/\nD ((l.take k).map (·.addr)) (l.drop k)=nD [] l,λk=>l.length-k,
  ⟨0,⟨Nat.zero_le _,rfl⟩,aF.keep ⟨ae,ae,ae,ae,trivial⟩ ⟨ae,trivial⟩⟩,λk ⟨hk,hinv⟩=>?_⟩
 conv=>whnf
 refine af (λh1=>?_) (λh1=>?_) <;> (rw[h1];conv=>whnf)
 . have hlt:k<l.length:=by simpa using h1
   obtain⟨x,hx⟩:∃x,l[k]? =some x:=⟨_,aj hlt⟩
   rw[IT hx]at hinv;refine⟨aw k,eN x,aD hx,?_⟩
   conv=>whnf
   repeat' (first|(refine⟨_,_,mg x.name,?_⟩;conv=>whnf)|(refine⟨_,_,Pp x.name,?_⟩;conv=>whnf)|(refine⟨_,_,Fe x.addr,?_⟩;conv=>whnf)|(refine af (λh=>?_) (λh=>?_) <;> (rw[h];conv=>whnf))|(refine⟨_,oe x.addr _,?_⟩;cases hc:((l.take k).map (·.addr)).contains x.addr <;> (conv=>whnf))|fail)
   all_goals first
    |(refine al rfl ?_;show AV.d (D.bool false)=AV.d (D.bool _);rw[<- hinv];simp_all;done)
    | (refine ⟨_, CP hc, ?_⟩
       conv=>whnf
       refine⟨k+1,⟨hlt,?_⟩,by(show l.length-(k+1)<l.length-k;omega),aF.keep ⟨ae,ae,⟨an (by omega),rfl⟩,ae,trivial⟩ ⟨⟨?_,rfl⟩,trivial⟩⟩
       . rw[bU hx,List.map_append];rw[<- hinv];simp_all
       . rw[bU hx,List.map_append];rfl)
 . obtain rfl:k=l.length:=by simp at h1;omega
   refine al rfl ?_;rw[<- hinv,List.drop_length];rfl
end Go.Proofs.YtodofogcincleaaGreatDoor
namespace NP
open NQ Go
def pmap(l:List ai):List (List D×D):=l.map λp=>([.int .i64 p.host,.str p.zone.apex],.bool true)
def qi(p x:ai):Bool:=(p.host==x.host)&&(p.zone.apex==x.zone.apex)
theorem uX(p:ai):∀l:List ai,pU [.int .i64,.str] [.int .i64 p.host,.str p.zone.apex] (pmap l)=some (if l.any (qi p)=true then some (.bool true)else none)
 |[]=>rfl
 |x::l=>by
  show(match dj [.int .i64,.str] [.d (.int .i64 p.host),.d (.str p.zone.apex)] [.d (.int .i64 x.host),.d (.str x.zone.apex)]with|some true=>_|some false=>pU _ _ (pmap l)|none=>none)=_
  have:dj [.int .i64,.str] [.d (.int .i64 p.host),.d (.str p.zone.apex)] [.d (.int .i64 x.host),.d (.str x.zone.apex)]=some (qi p x):=by
   show some ((p.host==x.host)&&((p.zone.apex==x.zone.apex)&&true))=_
   rw[jm];rfl
  rw[this,List.any_cons];cases h:qi p x with
  |true=>simp
  |false=>simp only[iJ];exact uX p l
theorem OF{p:ai}{l:List ai}(h:l.any (qi p)=false):vM [.int .i64,.str] [.int .i64 p.host,.str p.zone.apex] (.bool true) (pmap l)=some (pmap (l++[p])):=by
 rw[Ja (by rw[uX,h];rfl)];simp[pmap]
def apx(l:List ai):List (Bs×D):=l.foldl (λm p=>bS p.zone.apex (.bool true) m) []
theorem MT(l:List ai)(p:ai):apx (l++[p])=bS p.zone.apex (.bool true) (apx l):=by unfold apx;rw[List.foldl_append];rfl
def ju(n:Nat):List ai->List ai->Bool
 |_,[]=>true
 |seen,p::t=> !(decide (p.host<0)||decide (p.host>=(n:Int))||seen.any (qi p)|| !aR p.zone)&&ju n (seen++[p]) t
def pz(w:aL):Bool:=decide ((w.zones.length:Int)<=4000)&&ju w.hosts.length [] w.zones&&decide (((apx w.zones).length:Int)<=500)
theorem Fx{n:Nat}{l:List ai}{k:Nat}{p:ai}(hp:l[k]? =some p)(seen:List ai):ju n seen (l.drop k)=(!(decide (p.host<0)||decide (p.host>=(n:Int))||seen.any (qi p)|| !aR p.zone)&&ju n (seen++[p]) (l.drop (k+1))):=by
 rw[drop_cons hp];rfl
def eB(w:aL):Bool:=uL w.hosts&&pz w&&zj w.anchor w.hints
end NP
namespace Go.Proofs.YtodofogcincleaaGreatDoor
open NQ Go NP Go.RowKit
theorem AQ(w:aL)(hl:w.zones.length<=100000):NQ.Fn cx 104 [.agg (bn w)] (.d (.bool (pz w))) []:=by
 refine aM aV mixed Tryz.func104 (by kernel_rfl) rfl (ag rfl) ?_;conv=>whnf
 rw[ao];refine af (λh=>?_) (λh=>?_) <;> (rw[h];conv=>whnf)
 . refine al rfl ?_;show AV.d (D.bool _)=AV.d (D.bool _)
   congr 2
   unfold pz;simp at h;simp;omega
 have hle:pz w=(ju w.hosts.length [] w.zones&&decide (((apx w.zones).length:Int)<=500)):=by
  have:decide ((w.zones.length:Int)<=4000)=true:=by simp at h ⊢;omega
  unfold pz;rw[this,gZ]
 rw[hle];refine⟨Nat,λk=>⟨[(1,.ptr 1 0),(15,.d (.slice 3 (w.zones.map aC))),(16,.d (.int .i64 ((w.zones.map aC).length:Int))),(17,.d (.int .i64 k)),(3,.omap 12),(4,.omap 13)],[(1,.box ((bn w).map .d)),(12,.kmap (pmap (w.zones.take k))),(13,.smap (apx (w.zones.take k)))]⟩,λk=>k<=w.zones.length/\ju w.hosts.length (w.zones.take k) (w.zones.drop k)=ju w.hosts.length [] w.zones,λk=>w.zones.length-k,
  ⟨0,⟨Nat.zero_le _,rfl⟩,aF.keep ⟨ae,ae,ae,ae,ae,ae,trivial⟩ ⟨ae,ae,ae,trivial⟩⟩,λk ⟨hk,hinv⟩=>?_⟩
 conv=>whnf
 refine af (λh1=>?_) (λh1=>?_) <;> (rw[h1];conv=>whnf)
 . have hlt:k<w.zones.length:=by simpa using h1
   obtain⟨x,hx⟩:∃x,w.zones[k]? =some x:=⟨_,aj hlt⟩
   rw[Fx hx]at hinv;refine⟨aw k,aC x,aD hx,?_⟩
   conv=>whnf
   repeat' (first|(refine⟨_,_,iM x.zone,?_⟩;conv=>whnf)|(refine af (λh=>?_) (λh=>?_) <;> (rw[h];conv=>whnf))|(refine⟨_,uX x _,?_⟩;cases hc:(w.zones.take k).any (qi x) <;> (conv=>whnf))|fail)
   all_goals first
    |(refine al rfl ?_;show AV.d (D.bool false)=AV.d (D.bool _);rw[<- hinv];clear hinv hle;(try simp only[ao]at *);simp only[*, if_true,if_false,aK];done)
    | (refine ⟨_, OF hc, ?_⟩
       conv=>whnf
       refine⟨k+1,⟨hlt,?_⟩,by(show w.zones.length-(k+1)<w.zones.length-k;omega),aF.keep ⟨ae,ae,ae,⟨an (by omega),rfl⟩,ae,ae,trivial⟩ ⟨ae,⟨?_,rfl⟩,⟨?_,rfl⟩,trivial⟩⟩
       . rw[bU hx];rw[<- hinv];clear hinv hle;(try simp only[ao]at *);simp only[*, if_true,if_false,aK]
       . rw[bU hx];rfl
       . rw[bU hx,MT];rfl)
 . obtain rfl:k=w.zones.length:=by simp at h1;omega
   refine al rfl ?_;rw[<- hinv,List.drop_length,List.take_length];rfl
theorem MB(w:aL)(h1:w.hosts.length<=100000)(h2:w.zones.length<=100000)(h3:w.hints.length<=100000):NQ.Fn cx 55 [.agg (bn w)] (.d (.bool (eB w))) []:=by
 refine aM aV mixed Tryz.func55 (by kernel_rfl) rfl (ag rfl) ?_;conv=>whnf
 (refine⟨_,_,Cj w.hosts h1,?_⟩;conv=>whnf)
 refine af (λh=>?_) (λh=>?_) <;> (rw[h];conv=>whnf)
 . (refine⟨_,_,AQ w h2,?_⟩;conv=>whnf)
   refine af (λh' =>?_) (λh' =>?_) <;> (rw[h'];conv=>whnf)
   . (refine⟨_,_,EY w.anchor w.hints h3,?_⟩;conv=>whnf)
     refine al rfl ?_;unfold eB;rw[h,h'];rfl
   . refine al rfl ?_;unfold eB;rw[h,h'];rfl
 . refine al rfl ?_;unfold eB;rw[h];rfl
end Go.Proofs.YtodofogcincleaaGreatDoor
namespace NP
open NQ Go
def jR(p q:ai):Bool:=decide ((sn p.zone).1>(sn q.zone).1)||(decide ((sn p.zone).1=(sn q.zone).1)&&decide (p.host<q.host))
end NP
namespace Go.Proofs.YtodofogcincleaaGreatDoor
open NQ Go NP Go.RowKit
end Go.Proofs.YtodofogcincleaaGreatDoor
namespace NP
open NQ Go
theorem uh{n:Nat}:∀(l seen:List ai),ju n seen l=true-> ∀p∈l,aR p.zone=true/\0<=p.host/\p.host<(n:Int)
 |[],_,_,p,hp=>by cases hp
 |x::t,seen,h,p,hp=>by
  unfold ju at h;simp only[aH,Bool.not_eq_true',Bool.or_eq_false_iff,Bool.not_eq_false',decide_eq_false_iff_not]at h;rcases List.mem_cons.1 hp with rfl|hp
  . exact⟨h.1.2,by omega,by omega⟩
  . exact uh t _ h.2 p hp
theorem gY{w:aL}(h:eB w=true):∀p∈w.zones,aR p.zone=true/\0<=p.host/\p.host<(w.hosts.length:Int):=by
 unfold eB pz at h;simp only[aH]at h;exact uh _ _ h.1.2.1.2
structure tR(w:aL):Prop where
 hosts:w.hosts.length<=1000
 zones:w.zones.length<=1000
 hints:w.hints.length<=1000
 few:∀p∈w.zones,oL p.zone=true
end NP
namespace Go.Proofs.YtodofogcincleaaGreatDoor
open NQ Go NP Go.RowKit
end Go.Proofs.YtodofogcincleaaGreatDoor
