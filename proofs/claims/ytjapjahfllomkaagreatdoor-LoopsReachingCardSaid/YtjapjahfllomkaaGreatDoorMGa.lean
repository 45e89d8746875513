/-
  Texts of the proof, merged in build order.
-/
import Derived.Test.YtjapjahfllomkaaGreatDoorAbM
import Derived.Test.YtjapjahfllomkaaGreatDoorMQrc
import Derived.Test.YtjapjahfllomkaaGreatDoorMLrc
import Derived.Test.YtjapjahfllomkaaGreatDoorMCa
set_option linter.all false
set_option maxRecDepth 100000
namespace NP
open NQ Go
structure pv where
 name:Bs
 addr:Int
 owner:Int
 deriving DecidableEq
structure ag where
 host:Int
 zone:aS
 deriving DecidableEq
structure bX where
 hosts:List pv
 zones:List ag
 anchor:gi
 hints:List Int
def kK(h:pv):List D:=[.str h.name, .int .i64 h.addr, .int .i64 h.owner]
def cm(p:ag):List D:=[.int .i64 p.host, .str p.zone.apex, .slice 5 (p.zone.sets.map ay)]
def bY(w:bX):List D:=[.slice 3 (w.hosts.map kK), .slice 3 (w.zones.map cm), .str w.anchor.name, .int .i64 w.anchor.type, .int .i64 w.anchor.life, .slice 3 (w.anchor.data.map cB), .slice 1 (w.hints.map fun n=>[.int .i64 n])]
end NP
namespace Go.Proofs.YtjapjahfllomkaaGreatDoor
open NQ Go NP Go.RowKit
end Go.Proofs.YtjapjahfllomkaaGreatDoor
namespace NP
open NQ Go
def HQ(s:Bs):Int:=((dU s).1.length:Int)
end NP
namespace Go.Proofs.YtjapjahfllomkaaGreatDoor
open NQ Go NP Go.RowKit
end Go.Proofs.YtjapjahfllomkaaGreatDoor
namespace NP
open NQ Go
def Io(s:Bs):List ag->Bs×Int->Bs×Int
 | [],b=>b
 | p::t,b=>Io s t (if (bJ s p.zone.apex).1=true/\b.2<HQ p.zone.apex then(p.zone.apex,HQ p.zone.apex)else b)
def hAt(s:Bs)(w:bX)(k:Nat):Bs×Int:=Io s ((w.zones.filter fun p=>(bJ s p.zone.apex).1).take k) ([], -1)
end NP
namespace Go.Proofs.YtjapjahfllomkaaGreatDoor
open NQ Go NP Go.RowKit
end Go.Proofs.YtjapjahfllomkaaGreatDoor
namespace NP
open NQ Go
def fC(n:Int):Bool:=decide (n>=1)&&decide (n<=1000000)
def sm(s:Bs):Bool:=(dU s).1.head? ==some [42]
theorem L8{s:Bs}(h:an s=true):sm s=eZ s:=by
 rw[Ai h];unfold sm dU;rw[if_pos h]
def yk(l:List Int):List (List D×D):=l.map fun a=>([.tuple [.int .i64 a]], .bool true)
theorem sG(a:Int):∀l:List Int,iD (.int .i64 a) (yk l)=some (if l.contains a=true then some (.bool true)else none)
 | []=>rfl
 | x::l=>by
  show(match gA (.int .i64 a) [.tuple [.int .i64 x]]with | some true=>_ | some false=>iD (.int .i64 a) (yk l) | none=>none)=_
  have:gA (.int .i64 a) [.tuple [.int .i64 x]]=some (a==x):=by simp[gA]
  rw[this];cases h:(a==x)with
  | true => have e : a = x := by simpa using h
            subst e;simp
  | false=>simp only[List.contains_cons,h,aC];exact sG a l
theorem JS{a:Int}{l:List Int}(h:l.contains a=false):uO (.int .i64 a) (.bool true) (yk l)=some (yk (l++[a])):=by
 rw[GC (by rw[sG,h];rfl)];simp[yk]
def jN:List Int->List pv->Bool
 | _,[]=>true
 | seen,h::t=> !(!an h.name||sm h.name||decide (h.owner<0)||decide (h.owner>=32))&& !(!fC h.addr||seen.contains h.addr)&&jN (seen++[h.addr]) t
def ln(l:List pv):Bool:=decide ((l.length:Int)<=64)&&jN [] l
theorem xu{l:List pv}{k:Nat}{h:pv}(hh:l[k]? =some h)(seen:List Int):jN seen (l.drop k)=(!(!an h.name||sm h.name||decide (h.owner<0)||decide (h.owner>=32))&& !(!fC h.addr||seen.contains h.addr)&&jN (seen++[h.addr]) (l.drop (k+1))):=by
 rw[drop_cons hh];rfl
def nu(s:gi)(hints:List Int):Bool:=ed s&&(s.type==6)&&(s.name==[46])&&decide ((hints.length:Int)>=1)&&decide ((hints.length:Int)<=8)&&hints.all fC
end NP
namespace Go.Proofs.YtjapjahfllomkaaGreatDoor
open NQ Go NP Go.RowKit
theorem CU(n:Int):NQ.Fn cx 174 [.int .i64 n] (.d (.bool (fC n))) []:=by
 refine aP bf mixed Tryz.func174 (by kernel_rfl) rfl (ai rfl) ?_;conv=>whnf
 repeat' (first | (refine ae (fun h=>?_) (fun h=>?_) <;> (rw[h];conv=>whnf)) | fail)
 all_goals (refine af rfl ?_;show AV.d (D.bool _)=AV.d (D.bool _);congr 2;unfold fC;simp only[*, if_true,if_false,aB,aK,aI,aJ,aO,aN,aC,aE,aH,aF,aG,aD])
theorem L6(n:Int):NQ.Fn cx 176 [.int .i64 n] (.d (.bool (!fC n))) []:=by
 refine aP bf mixed Tryz.func176 (by kernel_rfl) rfl (ai rfl) ?_;conv=>whnf
 (refine⟨_,_,CU n,?_⟩;conv=>whnf)
 exact af rfl rfl
theorem L7(s:Bs):NQ.Fn cx 173 [.str s] (.d (.bool (sm s))) []:=by
 refine aP bf mixed Tryz.func173 (by kernel_rfl) rfl (ai rfl) ?_;conv=>whnf
 (refine⟨_,_,y6 s,?_⟩;conv=>whnf)
 (refine ae (fun h=>?_) (fun h=>?_) <;> (rw[h];conv=>whnf))
 . cases hl:(dU s).1 with
   | nil=>rw[hl]at h;simp at h
   | cons x t =>
    refine⟨by decide,au x,rfl,?_⟩
    conv=>whnf
    refine af rfl ?_;show AV.d (D.bool _)=AV.d (D.bool _)
    congr 2
    unfold sm;rw[hl];simp
 . refine af rfl ?_;show AV.d (D.bool _)=AV.d (D.bool _)
   congr 2
   unfold sm;cases hl:(dU s).1 with
   | nil=>rfl
   | cons x t=>rw[hl]at h;simp at h
theorem Iq(l:List Int)(p:Int->Bool)(hn:l.length<=100000)(hf:∀s∈l,NQ.Fn cx 176 [.int .i64 s] (.d (.bool (p s))) []) :
 NQ.Fn cx 106 [.slice 1 (l.map dt), .fn 176 [] []] (.d (.int .i64 (match l.findIdx? p with | some k=>(k:Int) | none=> -1))) []:=by
 refine aP bf mixed Tryz.func106 (by kernel_rfl) rfl (ai rfl) ?_;conv=>whnf
 refine⟨Nat,fun k=>⟨[(0, .d (.slice 1 (l.map dt))),(1, .d (.fn 176 [] [])),(6, .d (.slice 1 (l.map dt))),(7, .d (.int .i64 ((l.map dt).length:Int))),(8, .d (.int .i64 k))],[]⟩,fun k=>k<=l.length/\ ∀j y,j<k->l[j]? =some y->p y=false,fun k=>l.length-k,
  ⟨0,⟨by omega,fun j y h=>by omega⟩,aj.keep ⟨⟨rfl,rfl⟩,⟨rfl,rfl⟩,⟨rfl,rfl⟩,⟨rfl,rfl⟩,⟨rfl,rfl⟩,trivial⟩ trivial⟩,fun k hk=>?_⟩
 obtain⟨hk,hall⟩:=hk
 conv=>whnf
 refine ae (fun h1=>?_) (fun h1=>?_) <;> (rw[h1];conv=>whnf)
 . have hlt:k<l.length:=by simp at h1;omega
   obtain⟨s,hs⟩:∃s,l[k]? =some s:=⟨_,ah hlt⟩
   refine⟨az k,dt s,aT hs,?_⟩
   conv=>whnf
   (refine⟨_,_,hf s (ar hs),?_⟩;conv=>whnf)
   refine ae (fun h2=>?_) (fun h2=>?_) <;> (rw[h2];conv=>whnf)
   . refine af rfl ?_;have:l.findIdx? p=some k:=by
      rw[List.findIdx?_eq_some_iff_getElem];obtain⟨g1,g2⟩:=av.1 hs;refine⟨g1,by rw[g2];exact h2,fun j hj=>?_⟩;have:=hall j (l[j]) hj (ah (by omega));rw[this];decide
     rw[this];rfl
   . refine⟨k+1,⟨hlt,fun j y hj hy=>?_⟩,by(show l.length-(k+1)<l.length-k;omega),aj.keep ⟨⟨rfl,rfl⟩,⟨rfl,rfl⟩,⟨rfl,rfl⟩,⟨rfl,rfl⟩,⟨aq (by omega),rfl⟩,trivial⟩ trivial⟩;rcases Nat.lt_succ_iff_lt_or_eq.1 hj with hj | rfl
     . exact hall j y hj hy
     . rw[hs]at hy;cases hy;exact h2
 . obtain rfl:k=l.length:=by simp at h1;omega
   refine af rfl ?_;have:l.findIdx? p=none:=by
    rw[List.findIdx?_eq_none_iff];intro x hx;obtain⟨i,hi⟩:=cd hx;exact hall i x (av.1 hi).1 hi
   rw[this];rfl
theorem CV(l:List Int)(hl:l.length<=100000):NQ.Fn cx 50 [.slice 1 (l.map dt), .fn 176 [] []] (.d (.bool (!l.all fC))) []:=by
 refine aP bf mixed Tryz.func50 (by kernel_rfl) rfl (ai rfl) ?_;conv=>whnf
 (refine⟨_,_,Iq l (fun n=> !fC n) hl (fun s _=>L6 s),?_⟩;conv=>whnf)
 refine af rfl ?_;show AV.d (D.bool (decide ((match l.findIdx? (fun n=> !fC n)with | some k=>(k:Int) | none=> -1)>=0)))=_
 congr 2
 cases h:l.findIdx? (fun n=> !fC n)with
 | some k =>
  obtain⟨h1,h2,_⟩:=List.findIdx?_eq_some_iff_getElem.1 h;rw[decide_eq_true (az k)];have:l.all fC=false:=by
   rw[<- Bool.not_eq_true,aA];intro hall;rw[hall _ (List.getElem_mem h1)]at h2;cases h2
  rw[this];rfl
 | none =>
  have:l.all fC=true:=by
   rw[aA];intro x hx;have:=List.findIdx?_eq_none_iff.1 h x hx;simpa using this
  rw[this];rfl
theorem CO(s:gi)(hints:List Int)(hl:hints.length<=100000):NQ.Fn cx 100 [.agg (jX s), .slice 1 (hints.map dt)] (.d (.bool (nu s hints))) []:=by
 refine aP bf mixed Tryz.func100 (by kernel_rfl) rfl (ai rfl) ?_;conv=>whnf
 (refine⟨_,_,vt s,?_⟩;conv=>whnf)
 repeat' (first | (refine ae (fun h=>?_) (fun h=>?_) <;> (rw[h];conv=>whnf)) | fail)
 all_goals first
  | (refine af rfl ?_;show AV.d (D.bool false)=_;(try simp only[ao]at *);unfold nu;simp_all;done)
  | skip
 all_goals first
  | ((refine ⟨_, _, CV hints hl, ?_⟩; conv => whnf)
     refine af rfl ?_;show AV.d (D.bool _)=AV.d (D.bool _)
     congr 2
     (try simp only[ao]at *)
     unfold nu
     simp_all;done)
  | (refine af rfl ?_;show AV.d (D.bool false)=_;(try simp only[ao]at *);unfold nu;simp_all;omega)
theorem AE(l:List pv)(hl:l.length<=100000):NQ.Fn cx 98 [.slice 3 (l.map kK)] (.d (.bool (ln l))) []:=by
 refine aP bf mixed Tryz.func98 (by kernel_rfl) rfl (ai rfl) ?_;conv=>whnf
 rw[ao];refine ae (fun h=>?_) (fun h=>?_) <;> (rw[h];conv=>whnf)
 . refine af rfl ?_;show AV.d (D.bool _)=AV.d (D.bool _)
   congr 2
   unfold ln;simp at h;simp;omega
 have hle:ln l=jN [] l:=by unfold ln;simp at h;simp;omega
 rw[hle];refine⟨Nat,fun k=>⟨[(10, .d (.slice 3 (l.map kK))),(11, .d (.int .i64 ((l.map kK).length:Int))),(12, .d (.int .i64 k)),(3, .omap 9)],[(9, .kmap (yk ((l.take k).map (·.addr))))]⟩,fun k=>k<=l.length/\jN ((l.take k).map (·.addr)) (l.drop k)=jN [] l,fun k=>l.length-k,
  ⟨0,⟨Nat.zero_le _,rfl⟩,aj.keep ⟨⟨rfl,rfl⟩,⟨rfl,rfl⟩,⟨rfl,rfl⟩,⟨rfl,rfl⟩,trivial⟩ ⟨⟨rfl,rfl⟩,trivial⟩⟩,fun k ⟨hk,hinv⟩=>?_⟩
 conv=>whnf
 refine ae (fun h1=>?_) (fun h1=>?_) <;> (rw[h1];conv=>whnf)
 . have hlt:k<l.length:=by simpa using h1
   obtain⟨x,hx⟩:∃x,l[k]? =some x:=⟨_,ah hlt⟩
   rw[xu hx]at hinv;refine⟨az k,kK x,aT hx,?_⟩
   conv=>whnf
   repeat' (first | (refine⟨_,_,j6 x.name,?_⟩;conv=>whnf) | (refine⟨_,_,L7 x.name,?_⟩;conv=>whnf) | (refine⟨_,_,CU x.addr,?_⟩;conv=>whnf) | (refine ae (fun h=>?_) (fun h=>?_) <;> (rw[h];conv=>whnf)) | (refine⟨_,sG x.addr _,?_⟩;cases hc:((l.take k).map (·.addr)).contains x.addr <;> (conv=>whnf)) | fail)
   all_goals first
    | (refine af rfl ?_;show AV.d (D.bool false)=AV.d (D.bool _);rw[<- hinv];simp_all;done)
    | (refine ⟨_, JS hc, ?_⟩
       conv=>whnf
       refine⟨k+1,⟨hlt,?_⟩,by(show l.length-(k+1)<l.length-k;omega),aj.keep ⟨⟨rfl,rfl⟩,⟨rfl,rfl⟩,⟨aq (by omega),rfl⟩,⟨rfl,rfl⟩,trivial⟩ ⟨⟨?_,rfl⟩,trivial⟩⟩
       . rw[bn hx,List.map_append];rw[<- hinv];simp_all
       . rw[bn hx,List.map_append];rfl)
 . obtain rfl:k=l.length:=by simp at h1;omega
   refine af rfl ?_;rw[<- hinv,List.drop_length];rfl
end Go.Proofs.YtjapjahfllomkaaGreatDoor
namespace NP
open NQ Go
def pmap(l:List ag):List (List D×D):=l.map fun p=>([.int .i64 p.host, .str p.zone.apex], .bool true)
def gR(p x:ag):Bool:=(p.host==x.host)&&(p.zone.apex==x.zone.apex)
theorem tM(p:ag):∀l:List ag,mq [.int .i64, .str] [.int .i64 p.host, .str p.zone.apex] (pmap l)=some (if l.any (gR p)=true then some (.bool true)else none)
 | []=>rfl
 | x::l=>by
  show(match cY [.int .i64, .str] [.d (.int .i64 p.host), .d (.str p.zone.apex)] [.d (.int .i64 x.host), .d (.str x.zone.apex)]with | some true=>_ | some false=>mq _ _ (pmap l) | none=>none)=_
  have:cY [.int .i64, .str] [.d (.int .i64 p.host), .d (.str p.zone.apex)] [.d (.int .i64 x.host), .d (.str x.zone.apex)]=some (gR p x):=by
   show some ((p.host==x.host)&&((p.zone.apex==x.zone.apex)&&true))=_
   rw[aH];rfl
  rw[this,List.any_cons];cases h:gR p x with
  | true=>simp
  | false=>simp only[aC];exact tM p l
theorem Ln{p:ag}{l:List ag}(h:l.any (gR p)=false):uC [.int .i64, .str] [.int .i64 p.host, .str p.zone.apex] (.bool true) (pmap l)=some (pmap (l++[p])):=by
 rw[xy (by rw[tM,h];rfl)];simp[pmap]
def apx(l:List ag):List (Bs×D):=l.foldl (fun m p=>cM p.zone.apex (.bool true) m) []
theorem JX(l:List ag)(p:ag):apx (l++[p])=cM p.zone.apex (.bool true) (apx l):=by unfold apx;rw[List.foldl_append];rfl
def fp(n:Nat):List ag->List ag->Bool
 | _,[]=>true
 | seen,p::t=> !(decide (p.host<0)||decide (p.host>=(n:Int))||seen.any (gR p)|| !bE p.zone)&&fp n (seen++[p]) t
def lU(w:bX):Bool:=decide ((w.zones.length:Int)<=4000)&&fp w.hosts.length [] w.zones&&decide (((apx w.zones).length:Int)<=500)
theorem u4{n:Nat}{l:List ag}{k:Nat}{p:ag}(hp:l[k]? =some p)(seen:List ag):fp n seen (l.drop k)=(!(decide (p.host<0)||decide (p.host>=(n:Int))||seen.any (gR p)|| !bE p.zone)&&fp n (seen++[p]) (l.drop (k+1))):=by
 rw[drop_cons hp];rfl
def cO(w:bX):Bool:=ln w.hosts&&lU w&&nu w.anchor w.hints
end NP
namespace Go.Proofs.YtjapjahfllomkaaGreatDoor
open NQ Go NP Go.RowKit
theorem y3(w:bX)(hl:w.zones.length<=100000):NQ.Fn cx 99 [.agg (bY w)] (.d (.bool (lU w))) []:=by
 refine aP bf mixed Tryz.func99 (by kernel_rfl) rfl (ai rfl) ?_;conv=>whnf
 rw[ao];refine ae (fun h=>?_) (fun h=>?_) <;> (rw[h];conv=>whnf)
 . refine af rfl ?_;show AV.d (D.bool _)=AV.d (D.bool _)
   congr 2
   unfold lU;simp at h;simp;omega
 have hle:lU w=(fp w.hosts.length [] w.zones&&decide (((apx w.zones).length:Int)<=500)):=by
  have:decide ((w.zones.length:Int)<=4000)=true:=by simp at h ⊢;omega
  unfold lU;rw[this,aF]
 rw[hle];refine⟨Nat,fun k=>⟨[(1, .ptr 1 0),(15, .d (.slice 3 (w.zones.map cm))),(16, .d (.int .i64 ((w.zones.map cm).length:Int))),(17, .d (.int .i64 k)),(3, .omap 12),(4, .omap 13)],[(1, .box ((bY w).map .d)),(12, .kmap (pmap (w.zones.take k))),(13, .smap (apx (w.zones.take k)))]⟩,fun k=>k<=w.zones.length/\fp w.hosts.length (w.zones.take k) (w.zones.drop k)=fp w.hosts.length [] w.zones,fun k=>w.zones.length-k,
  ⟨0,⟨Nat.zero_le _,rfl⟩,aj.keep ⟨⟨rfl,rfl⟩,⟨rfl,rfl⟩,⟨rfl,rfl⟩,⟨rfl,rfl⟩,⟨rfl,rfl⟩,⟨rfl,rfl⟩,trivial⟩ ⟨⟨rfl,rfl⟩,⟨rfl,rfl⟩,⟨rfl,rfl⟩,trivial⟩⟩,fun k ⟨hk,hinv⟩=>?_⟩
 conv=>whnf
 refine ae (fun h1=>?_) (fun h1=>?_) <;> (rw[h1];conv=>whnf)
 . have hlt:k<w.zones.length:=by simpa using h1
   obtain⟨x,hx⟩:∃x,w.zones[k]? =some x:=⟨_,ah hlt⟩
   rw[u4 hx]at hinv;refine⟨az k,cm x,aT hx,?_⟩
   conv=>whnf
   repeat' (first | (refine⟨_,_,uq x.zone,?_⟩;conv=>whnf) | (refine ae (fun h=>?_) (fun h=>?_) <;> (rw[h];conv=>whnf)) | (refine⟨_,tM x _,?_⟩;cases hc:(w.zones.take k).any (gR x) <;> (conv=>whnf)) | fail)
   all_goals first
    | (refine af rfl ?_;show AV.d (D.bool false)=AV.d (D.bool _);rw[<- hinv];clear hinv hle;(try simp only[ao]at *);simp only[*, if_true,if_false,aB,aK,aI,aJ,aO,aN,aC,aE,aH,aF,aG,aD];done)
    | (refine ⟨_, Ln hc, ?_⟩
       conv=>whnf
       refine⟨k+1,⟨hlt,?_⟩,by(show w.zones.length-(k+1)<w.zones.length-k;omega),aj.keep ⟨⟨rfl,rfl⟩,⟨rfl,rfl⟩,⟨rfl,rfl⟩,⟨aq (by omega),rfl⟩,⟨rfl,rfl⟩,⟨rfl,rfl⟩,trivial⟩ ⟨⟨rfl,rfl⟩,⟨?_,rfl⟩,⟨?_,rfl⟩,trivial⟩⟩
       . rw[bn hx];rw[<- hinv];clear hinv hle;(try simp only[ao]at *);simp only[*, if_true,if_false,aB,aK,aI,aJ,aO,aN,aC,aE,aH,aF,aG,aD]
       . rw[bn hx];rfl
       . rw[bn hx,JX];rfl)
 . obtain rfl:k=w.zones.length:=by simp at h1;omega
   refine af rfl ?_;rw[<- hinv,List.drop_length,List.take_length];rfl
theorem JF(w:bX)(h1:w.hosts.length<=100000)(h2:w.zones.length<=100000)(h3:w.hints.length<=100000):NQ.Fn cx 43 [.agg (bY w)] (.d (.bool (cO w))) []:=by
 refine aP bf mixed Tryz.func43 (by kernel_rfl) rfl (ai rfl) ?_;conv=>whnf
 (refine⟨_,_,AE w.hosts h1,?_⟩;conv=>whnf)
 refine ae (fun h=>?_) (fun h=>?_) <;> (rw[h];conv=>whnf)
 . (refine⟨_,_,y3 w h2,?_⟩;conv=>whnf)
   refine ae (fun h' =>?_) (fun h' =>?_) <;> (rw[h'];conv=>whnf)
   . (refine⟨_,_,CO w.anchor w.hints h3,?_⟩;conv=>whnf)
     refine af rfl ?_;unfold cO;rw[h,h'];rfl
   . refine af rfl ?_;unfold cO;rw[h,h'];rfl
 . refine af rfl ?_;unfold cO;rw[h];rfl
end Go.Proofs.YtjapjahfllomkaaGreatDoor
namespace NP
open NQ Go
def er(a:Bs):List (Bs×Nat)->Option Nat
 | []=>none
 | (b,i)::t=>if a=b then some i else er a t
def fy(a:Bs)(i:Nat):List (Bs×Nat)->List (Bs×Nat)
 | []=>[(a,i)]
 | (b,j)::t=>if a=b then(b,i)::t else(b,j)::fy a i t
theorem nV(a b:Bs)(i:Nat):∀m,er b (fy a i m)=if a=b then some i else er b m
 | []=>by
  simp only[fy,er];by_cases h:a=b
  . rw[if_pos h.symm,if_pos h]
  . rw[if_neg (Ne.symm h),if_neg h]
 | (c,j)::t=>by
  unfold fy;by_cases hc:a=c
  . rw[if_pos hc];subst hc;unfold er;by_cases h:b=a
    . rw[if_pos h,if_pos h.symm]
    . rw[if_neg h,if_neg h,if_neg (Ne.symm h)]
  . rw[if_neg hc];unfold er;by_cases h:b=c
    . rw[if_pos h,if_pos h,if_neg (fun e=>hc (e.trans h))]
    . rw[if_neg h,if_neg h];exact nV a b i t
def du(p q:ag):Bool:=decide ((fb p.zone).1>(fb q.zone).1)||(decide ((fb p.zone).1=(fb q.zone).1)&&decide (p.host<q.host))
def gr(zs:List ag)(m:List (Bs×Nat))(p:ag):Bool:=match er p.zone.apex m with
 | none=>true
 | some j=>(match zs[j]? with | some q=>du p q | none=>false)
def iF(zs:List ag):Nat->List ag->List (Bs×Nat)->List (Bs×Nat)
 | _,[],m=>m
 | i,p::t,m=>iF zs (i+1) t (if gr zs m p=true then fy p.zone.apex i m else m)
def dw(zs:List ag):List (Bs×Nat):=iF zs 0 zs []
theorem Js{zs l:List ag}{k:Nat}{p:ag}(hp:l[k]? =some p)(m:List (Bs×Nat)):iF zs k (l.drop k) m=iF zs (k+1) (l.drop (k+1)) (if gr zs m p=true then fy p.zone.apex k m else m):=by
 rw[drop_cons hp];rfl
def jv(zs:List ag)(m:List (Bs×Nat)):Prop:= ∀a j,er a m=some j-> ∃p,zs[j]? =some p/\p.zone.apex=a
theorem jv.put{zs:List ag}{m:List (Bs×Nat)}(h:jv zs m){i:Nat}{p:ag}(hp:zs[i]? =some p):jv zs (fy p.zone.apex i m):=by
 intro a j hj;rw[nV]at hj;split at hj
 . cases hj;exact⟨p,hp,by assumption⟩
 . exact h a j hj
theorem jv.go{zs:List ag}:∀(l:List ag) (i:Nat) (m:List (Bs×Nat)),(∀j,l[j]? =zs[i+j]?)->jv zs m->jv zs (iF zs i l m)
 | [],i,m,_,h=>h
 | p::t,i,m,hl,h=>by
  unfold iF;refine jv.go t (i+1) _ (fun j=>by have:=hl (j+1);simp at this;rw[this];congr 1;omega) ?_;split
  . exact h.put (by have:=hl 0;simpa using this.symm)
  . exact h
theorem Ac(zs:List ag):jv zs (dw zs):=jv.go zs 0 [] (fun j=>by rw[Nat.zero_add]) (fun a j h=>by cases h)
def l9(zs:List ag)(m:List (Bs×Nat))(q:bg):Nat->Bs->Ans×Bool
 | 0,_=>(lJ,false)
 | f+1,a=>match er a m with
  | none=>(lJ,false)
  | some i=>(match zs[i]? with
   | some p=>if ((bH p.zone q).1.kind != 4)=true then((bH p.zone q).1,true)else l9 zs m q f (bH p.zone q).1.cut
   | none=>(lJ,false))
def dB(zs:List ag):Prop:= ∀p∈zs,eH p.zone=true/\bE p.zone=true
theorem gQ{z:aS}{q:bg}(u:Use z q)(hk:((bH z q).1.kind != 4)=false):aM q.name (bH z q).1.cut=true/\(back z.apex).length<(back (bH z q).1.cut).length/\an (bH z q).1.cut=true/\(bH z q).1.cut∈cG z.apex z.sets:=by
 cases hr:eB (vw z q)with
 | false =>
  have:=(u.ES hr).1;simp only[bne,this]at hk;cases hk
 | true =>
  obtain⟨s0,R,h1,h2,h3,_⟩:=u.Mp hr;rw[h3];have hne:bx z q.name ≠ []:=by intro e;rw[CT,e]at hr;cases hr
  have hcut:bx z q.name∈cG z.apex z.sets/\aM q.name (bx z q.name)=true:=by
   unfold bx at hne ⊢;cases hf:(cG z.apex z.sets).find? fun c=>aM q.name c with
   | none=>rw[hf]at hne;exact absurd rfl hne
   | some c=>exact⟨List.mem_of_find?_eq_some hf,by have:=List.find?_some hf;simpa using this⟩
  obtain⟨hc,hu⟩:=hcut;have ho:=u.ord;obtain⟨s,hs,hi,he⟩:=(lV z.apex _ z.sets).1 hc;have hua:=ho.under s hs;have hsv:=ho.name s hs;unfold bJ at hua;rw[if_pos ⟨hsv,ho.apex⟩,he]at hua;refine⟨hu,?_,he ▸ hsv,hc⟩;have hpre:=(dM _ _).1 hua;have hle:=hpre.length_le;rcases Nat.lt_or_ge (back z.apex).length (back (bx z q.name)).length with h | h
  . exact h
  . have e:back z.apex=back (bx z q.name):=hpre.eq_of_length (by omega);have:bx z q.name=z.apex:=oK hua ((dM _ _).2 (by rw[e];exact List.prefix_rfl));unfold dJ at hi;rw[he,this]at hi;simp at hi
end NP
namespace Go.Proofs.YtjapjahfllomkaaGreatDoor
open NQ Go NP Go.RowKit
end Go.Proofs.YtjapjahfllomkaaGreatDoor
namespace NP
open NQ Go
theorem iW(a:Bs):aM a [46]=true:=by
 rw[dM];show([]:List Bs) <+: _
 exact List.nil_prefix
def gL(zs:List ag)(q:bg):Ans×Bool:=l9 zs (dw zs) q ((back q.name).length+2) [46]
end NP
namespace Go.Proofs.YtjapjahfllomkaaGreatDoor
open NQ Go NP Go.RowKit
end Go.Proofs.YtjapjahfllomkaaGreatDoor
namespace NP
open NQ Go
theorem tY{zs:List ag}{q:bg}(hg:dB zs)(hq:b9 q=true){m:List (Bs×Nat)}(hm:jv zs m):∀(f:Nat) (a:Bs),aM q.name a=true-> ∀x,l9 zs m q f a=(x,true)-> ∃p∈zs,Use p.zone q/\x=(bH p.zone q).1/\(x.kind != 4)=true
 | 0,a,hu,x,h=>by cases h
 | f+1,a,hu,x,h=>by
  unfold l9 at h;cases hi:er a m with
  | none=>rw[hi]at h;cases h
  | some i =>
   rw[hi]at h;obtain⟨p,hp,ha⟩:=hm a i hi;dsimp only at h;rw[hp]at h;dsimp only at h;have hmem:=ar hp;obtain⟨g1,g2⟩:=hg p hmem;have u:Use p.zone q:=⟨g1,g2,hq,by rw[ha];exact hu⟩
   cases hk:((bH p.zone q).1.kind != 4)with
   | true=>rw[hk,if_pos rfl]at h;cases h;exact⟨p,hmem,u,rfl,hk⟩
   | false =>
    rw[hk,if_neg (by simp)]at h;exact tY hg hq hm f _ (gQ u hk).1 x h
theorem Cy{zs:List ag}{q:bg}(hg:dB zs)(hq:b9 q=true){x:Ans}(h:gL zs q=(x,true)):∃p∈zs,Use p.zone q/\x=(bH p.zone q).1/\(x.kind != 4)=true :=
 tY hg hq (Ac zs) _ _ (iW q.name) x h
theorem Hb{s:gi}(h:ed s=true)(ht:s.type=3):∃d,s.data=[d]/\an d.text=true:=by
 unfold ed at h;simp only[aR,Bool.not_eq_true',Bool.or_eq_false_iff,Bool.not_eq_false']at h;obtain⟨⟨⟨⟨_,_⟩,hw⟩,hs,_⟩,hall⟩:=h;rw[ht]at hs hall;have h1:s.data.length=1:=by
  have:(fm 3).single=true:=rfl;rw[this,aF]at hs;have:(s.data.length:Int)=1:=by simpa using hs
  omega
 obtain⟨d,hd⟩:∃d,s.data=[d]:=List.length_eq_one_iff.1 h1;refine⟨d,hd,?_⟩;rw[hd]at hall;have:=aA.1 hall 0 (by simp);rw[v8 (d:=d) (p:=d) rfl rfl]at this;unfold nL at this;simp only[Bool.not_eq_true',Bool.or_eq_false_iff,Bool.not_eq_false']at this;have hv:=this.1;unfold fH at hv;simp only[aR]at hv;have ht:=hv.2;have e:(fm 3).text=1:=rfl;rw[e]at ht;simp only[ky,if_true,aR]at ht;exact ht.1
theorem Use.NR{z:aS}{q:bg}(u:Use z q)(hk:(bH z q).1.kind=3):∃s R d,(bH z q).1.sets=s::R/\s∈z.sets/\s.set.type=3/\s.set.data=[d]/\an d.text=true:=by
 have key:∀(q' :bg) (rest:List Int),q'.type=3->(decide (atI z.sets q' >=0))=true->(bH z q).1.sets=cn z.sets [] (atI z.sets q' ::rest)-> ∃s R d,(bH z q).1.sets=s::R/\s∈z.sets/\s.set.type=3/\s.set.data=[d]/\an d.text=true:=fun q' rest ht hat hs=>by
  have hh:cj z.sets q' =true:=by
   have:=jJ z.sets q';cases hc:cj z.sets q' with
   | true=>rfl
   | false=>rw[hc]at this;simp at this hat;omega
  obtain⟨k,s,h1,h2,h3⟩:=oo hh;have hm:=ar h2;have ht3:s.set.type=3:=by have:=congrArg Prod.snd h3;exact(show s.set.type=q'.type from this).trans ht
  obtain⟨d,hd,hv⟩:=Hb (u.ord.set s hm) ht3;refine⟨s,cn z.sets ([]++[atI z.sets q']) rest,d,?_,hm,ht3,hd,hv⟩;rw[hs,cn,if_neg (by rw[h1];simp),h1];simp[h2]
 rw[u.ans]at hk key ⊢;dsimp only at hk key ⊢;unfold fo at hk key ⊢;split at hk
 . exfalso;rename_i hr;unfold jF at hk;rw[if_pos hr]at hk;simp at hk
 rename_i hr;rw[if_neg hr]at key ⊢;split at hk
 . simp[xe]at hk
 rename_i hd;rw[if_neg hd]at key ⊢;split at hk
 . rename_i ha;rw[if_pos ha]at key ⊢;have:decide (atI z.sets ⟨q.name,3⟩>=0)=true:=by unfold nF at ha;simp only[aR]at ha;exact ha.1
   exact key ⟨q.name,3⟩ [] rfl this rfl
 rename_i ha;rw[if_neg ha]at key ⊢;split at hk
 . exfalso;rename_i hx;unfold kQ at hk;rw[if_pos hx]at hk;simp at hk
 rename_i hx;rw[if_neg hx]at key ⊢;split at hk
 . simp[ye]at hk
 rename_i hw;rw[if_neg hw]at key ⊢;split at hk
 . rename_i hwa;rw[if_pos hwa]at key ⊢;have hs:(ck (vw z q)).sets=z.sets:=vn _;have:decide (atI z.sets ⟨(ck (vw z q)).cP,3⟩>=0)=true:=by unfold fM at hwa;simp only[aR]at hwa;rw[hs]at hwa;exact hwa.1
   refine key ⟨(ck (vw z q)).cP,3⟩ [eG (ck (vw z q)).sets (ck (vw z q)).q.name] rfl this ?_;unfold mJ;rw[hs]
 rename_i hwa;split at hk
 . exfalso;unfold kZ at hk;(try split at hk) <;> simp at hk
 . exfalso;unfold jQ at hk;(try split at hk) <;> simp at hk
theorem sN{n:Nat}:∀(l seen:List ag),fp n seen l=true-> ∀p∈l,bE p.zone=true/\0<=p.host/\p.host<(n:Int)
 | [],_,_,p,hp=>by cases hp
 | x::t,seen,h,p,hp=>by
  unfold fp at h;simp only[aR,Bool.not_eq_true',Bool.or_eq_false_iff,Bool.not_eq_false',decide_eq_false_iff_not]at h;rcases List.mem_cons.1 hp with rfl | hp
  . exact⟨h.1.2,by omega,by omega⟩
  . exact sN t _ h.2 p hp
theorem ug{w:bX}(h:cO w=true):∀p∈w.zones,bE p.zone=true/\0<=p.host/\p.host<(w.hosts.length:Int):=by
 unfold cO lU at h;simp only[aR]at h;exact sN _ _ h.1.2.1.2
structure k7(w:bX):Prop where
 hosts:w.hosts.length<=1000
 zones:w.zones.length<=1000
 hints:w.hints.length<=1000
 few:∀p∈w.zones,eH p.zone=true
end NP
namespace Go.Proofs.YtjapjahfllomkaaGreatDoor
open NQ Go NP Go.RowKit
end Go.Proofs.YtjapjahfllomkaaGreatDoor
