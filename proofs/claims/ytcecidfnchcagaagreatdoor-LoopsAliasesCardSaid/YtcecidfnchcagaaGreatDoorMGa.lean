/-
  Texts of the proof, merged in build order.
-/
import Derived.Test.YtcecidfnchcagaaGreatDoorAbM
import Derived.Test.YtcecidfnchcagaaGreatDoorMQrc
import Derived.Test.YtcecidfnchcagaaGreatDoorMLrc
import Derived.Test.YtcecidfnchcagaaGreatDoorMCa
set_option linter.all false
set_option maxRecDepth 100000
namespace NP
open NQ Go
structure oU where
 name:Bs
 addr:Int
 owner:Int
 deriving DecidableEq
structure ai where
 host:Int
 zone:aP
 deriving DecidableEq
structure bS where
 hosts:List oU
 zones:List ai
 anchor:fI
 hints:List Int
def j9(h:oU):List D:=[.str h.name, .int .i64 h.addr, .int .i64 h.owner]
def bZ(p:ai):List D:=[.int .i64 p.host, .str p.zone.apex, .slice 5 (p.zone.sets.map au)]
def cH(w:bS):List D:=[.slice 3 (w.hosts.map j9), .slice 3 (w.zones.map bZ), .str w.anchor.name, .int .i64 w.anchor.type, .int .i64 w.anchor.life, .slice 3 (w.anchor.data.map b5), .slice 1 (w.hints.map fun n=>[.int .i64 n])]
end NP
namespace Go.Proofs.YtcecidfnchcagaaGreatDoor
open NQ Go NP Go.RowKit
end Go.Proofs.YtcecidfnchcagaaGreatDoor
namespace NP
open NQ Go
def GV(s:Bs):Int:=((dQ s).1.length:Int)
end NP
namespace Go.Proofs.YtcecidfnchcagaaGreatDoor
open NQ Go NP Go.RowKit
end Go.Proofs.YtcecidfnchcagaaGreatDoor
namespace NP
open NQ Go
def Hi(s:Bs):List ai->Bs×Int->Bs×Int
 | [],b=>b
 | p::t,b=>Hi s t (if (bI s p.zone.apex).1=true/\b.2<GV p.zone.apex then(p.zone.apex,GV p.zone.apex)else b)
def hAt(s:Bs)(w:bS)(k:Nat):Bs×Int:=Hi s ((w.zones.filter fun p=>(bI s p.zone.apex).1).take k) ([], -1)
end NP
namespace Go.Proofs.YtcecidfnchcagaaGreatDoor
open NQ Go NP Go.RowKit
theorem Kg(p q:ai):NQ.Fn cx 181 [.agg (bZ p), .agg (bZ q)] (.d (.bool (decide ((dA p.zone).1>(dA q.zone).1)||(decide ((dA p.zone).1=(dA q.zone).1)&&decide (p.host<q.host))))) []:=by
 refine aM bf mixed Tryz.func181 (by kernel_rfl) rfl (ag rfl) ?_;conv=>whnf
 (refine⟨_,_,s9 p.zone,?_⟩;conv=>whnf)
 (refine⟨_,_,s9 q.zone,?_⟩;conv=>whnf)
 repeat' (first | (refine ae (fun h=>?_) (fun h=>?_) <;> (rw[h];conv=>whnf)) | fail)
 all_goals (refine af rfl ?_;show AV.d (D.bool _)=AV.d (D.bool _);congr 2 <;> simp_all)
end Go.Proofs.YtcecidfnchcagaaGreatDoor
namespace NP
open NQ Go
def fm(n:Int):Bool:=decide (n>=1)&&decide (n<=1000000)
def rG(s:Bs):Bool:=(dQ s).1.head? ==some [42]
theorem K8{s:Bs}(h:aj s=true):rG s=eU s:=by
 rw[zD h];unfold rG dQ;rw[if_pos h]
def xM(l:List Int):List (List D×D):=l.map fun a=>([.tuple [.int .i64 a]], .bool true)
theorem rW(a:Int):∀l:List Int,fT (.int .i64 a) (xM l)=some (if l.contains a=true then some (.bool true)else none)
 | []=>rfl
 | x::l=>by
  show(match fo (.int .i64 a) [.tuple [.int .i64 x]]with | some true=>_ | some false=>fT (.int .i64 a) (xM l) | none=>none)=_
  have:fo (.int .i64 a) [.tuple [.int .i64 x]]=some (a==x):=by simp[fo]
  rw[this];cases h:(a==x)with
  | true => have e : a = x := by simpa using h
            subst e;simp
  | false=>simp only[List.contains_cons,h,ax];exact rW a l
theorem I6{a:Int}{l:List Int}(h:l.contains a=false):ug (.int .i64 a) (.bool true) (xM l)=some (xM (l++[a])):=by
 rw[F1 (by rw[rW,h];rfl)];simp[xM]
def jq:List Int->List oU->Bool
 | _,[]=>true
 | seen,h::t=> !(!aj h.name||rG h.name||decide (h.owner<0)||decide (h.owner>=32))&& !(!fm h.addr||seen.contains h.addr)&&jq (seen++[h.addr]) t
def kL(l:List oU):Bool:=decide ((l.length:Int)<=64)&&jq [] l
theorem wR{l:List oU}{k:Nat}{h:oU}(hh:l[k]? =some h)(seen:List Int):jq seen (l.drop k)=(!(!aj h.name||rG h.name||decide (h.owner<0)||decide (h.owner>=32))&& !(!fm h.addr||seen.contains h.addr)&&jq (seen++[h.addr]) (l.drop (k+1))):=by
 rw[drop_cons hh];rfl
def mN(s:fI)(hints:List Int):Bool:=dW s&&(s.type==6)&&(s.name==[46])&&decide ((hints.length:Int)>=1)&&decide ((hints.length:Int)<=8)&&hints.all fm
end NP
namespace Go.Proofs.YtcecidfnchcagaaGreatDoor
open NQ Go NP Go.RowKit
theorem IQ(q:aW):NQ.Fn cx 110 [.agg (cm q)] (.d (.bool (bB q))) []:=by
 refine aM bf mixed Tryz.func110 (by kernel_rfl) rfl (ag rfl) ?_;conv=>whnf
 (refine⟨_,_,iF q.name,?_⟩;conv=>whnf)
 repeat' (first | (refine ae (fun h=>?_) (fun h=>?_) <;> (rw[h];conv=>whnf)) | (refine af rfl ?_;show AV.d (D.bool false)=_;(try simp only[ak]at *);simp only[bB, *, if_true,if_false,av,aF,aE,aG,aK,aH,ax,aA,aB,aC,aD,az];done) | (refine af rfl ?_;show AV.d (D.bool true)=_;(try simp only[ak]at *);simp only[bB, *, if_true,if_false,av,aF,aE,aG,aK,aH,ax,aA,aB,aC,aD,az];done) | fail)
 all_goals (refine af rfl ?_;show AV.d (D.bool _)=AV.d (D.bool _);congr 2;simp_all [bB])
theorem Cp(n:Int):NQ.Fn cx 188 [.int .i64 n] (.d (.bool (fm n))) []:=by
 refine aM bf mixed Tryz.func188 (by kernel_rfl) rfl (ag rfl) ?_;conv=>whnf
 repeat' (first | (refine ae (fun h=>?_) (fun h=>?_) <;> (rw[h];conv=>whnf)) | fail)
 all_goals (refine af rfl ?_;show AV.d (D.bool _)=AV.d (D.bool _);congr 2;unfold fm;simp only[*, if_true,if_false,av,aF,aE,aG,aK,aH,ax,aA,aB,aC,aD,az])
theorem K5(n:Int):NQ.Fn cx 190 [.int .i64 n] (.d (.bool (!fm n))) []:=by
 refine aM bf mixed Tryz.func190 (by kernel_rfl) rfl (ag rfl) ?_;conv=>whnf
 (refine⟨_,_,Cp n,?_⟩;conv=>whnf)
 exact af rfl rfl
theorem K6(s:Bs):NQ.Fn cx 187 [.str s] (.d (.bool (rG s))) []:=by
 refine aM bf mixed Tryz.func187 (by kernel_rfl) rfl (ag rfl) ?_;conv=>whnf
 (refine⟨_,_,yy s,?_⟩;conv=>whnf)
 (refine ae (fun h=>?_) (fun h=>?_) <;> (rw[h];conv=>whnf))
 . cases hl:(dQ s).1 with
   | nil=>rw[hl]at h;simp at h
   | cons x t =>
    refine⟨by decide,aI x,rfl,?_⟩
    conv=>whnf
    refine af rfl ?_;show AV.d (D.bool _)=AV.d (D.bool _)
    congr 2
    unfold rG;rw[hl];simp
 . refine af rfl ?_;show AV.d (D.bool _)=AV.d (D.bool _)
   congr 2
   unfold rG;cases hl:(dQ s).1 with
   | nil=>rfl
   | cons x t=>rw[hl]at h;simp at h
theorem Hk(l:List Int)(p:Int->Bool)(hn:l.length<=100000)(hf:∀s∈l,NQ.Fn cx 190 [.int .i64 s] (.d (.bool (p s))) []) :
 NQ.Fn cx 124 [.slice 1 (l.map dj), .fn 190 [] []] (.d (.int .i64 (match l.findIdx? p with | some k=>(k:Int) | none=> -1))) []:=by
 refine aM bf mixed Tryz.func124 (by kernel_rfl) rfl (ag rfl) ?_;conv=>whnf
 refine⟨Nat,fun k=>⟨[(0, .d (.slice 1 (l.map dj))),(1, .d (.fn 190 [] [])),(6, .d (.slice 1 (l.map dj))),(7, .d (.int .i64 ((l.map dj).length:Int))),(8, .d (.int .i64 k))],[]⟩,fun k=>k<=l.length/\ ∀j y,j<k->l[j]? =some y->p y=false,fun k=>l.length-k,
  ⟨0,⟨by omega,fun j y h=>by omega⟩,an.keep ⟨⟨rfl,rfl⟩,⟨rfl,rfl⟩,⟨rfl,rfl⟩,⟨rfl,rfl⟩,⟨rfl,rfl⟩,trivial⟩ trivial⟩,fun k hk=>?_⟩
 obtain⟨hk,hall⟩:=hk
 conv=>whnf
 refine ae (fun h1=>?_) (fun h1=>?_) <;> (rw[h1];conv=>whnf)
 . have hlt:k<l.length:=by simp at h1;omega
   obtain⟨s,hs⟩:∃s,l[k]? =some s:=⟨_,ah hlt⟩
   refine⟨aJ k,dj s,aT hs,?_⟩
   conv=>whnf
   (refine⟨_,_,hf s (ao hs),?_⟩;conv=>whnf)
   refine ae (fun h2=>?_) (fun h2=>?_) <;> (rw[h2];conv=>whnf)
   . refine af rfl ?_;have:l.findIdx? p=some k:=by
      rw[List.findIdx?_eq_some_iff_getElem];obtain⟨g1,g2⟩:=aq.1 hs;refine⟨g1,by rw[g2];exact h2,fun j hj=>?_⟩;have:=hall j (l[j]) hj (ah (by omega));rw[this];decide
     rw[this];rfl
   . refine⟨k+1,⟨hlt,fun j y hj hy=>?_⟩,by(show l.length-(k+1)<l.length-k;omega),an.keep ⟨⟨rfl,rfl⟩,⟨rfl,rfl⟩,⟨rfl,rfl⟩,⟨rfl,rfl⟩,⟨ar (by omega),rfl⟩,trivial⟩ trivial⟩;rcases Nat.lt_succ_iff_lt_or_eq.1 hj with hj | rfl
     . exact hall j y hj hy
     . rw[hs]at hy;cases hy;exact h2
 . obtain rfl:k=l.length:=by simp at h1;omega
   refine af rfl ?_;have:l.findIdx? p=none:=by
    rw[List.findIdx?_eq_none_iff];intro x hx;obtain⟨i,hi⟩:=bV hx;exact hall i x (aq.1 hi).1 hi
   rw[this];rfl
theorem Cq(l:List Int)(hl:l.length<=100000):NQ.Fn cx 61 [.slice 1 (l.map dj), .fn 190 [] []] (.d (.bool (!l.all fm))) []:=by
 refine aM bf mixed Tryz.func61 (by kernel_rfl) rfl (ag rfl) ?_;conv=>whnf
 (refine⟨_,_,Hk l (fun n=> !fm n) hl (fun s _=>K5 s),?_⟩;conv=>whnf)
 refine af rfl ?_;show AV.d (D.bool (decide ((match l.findIdx? (fun n=> !fm n)with | some k=>(k:Int) | none=> -1)>=0)))=_
 congr 2
 cases h:l.findIdx? (fun n=> !fm n)with
 | some k =>
  obtain⟨h1,h2,_⟩:=List.findIdx?_eq_some_iff_getElem.1 h;rw[decide_eq_true (aJ k)];have:l.all fm=false:=by
   rw[<- Bool.not_eq_true,ay];intro hall;rw[hall _ (List.getElem_mem h1)]at h2;cases h2
  rw[this];rfl
 | none =>
  have:l.all fm=true:=by
   rw[ay];intro x hx;have:=List.findIdx?_eq_none_iff.1 h x hx;simpa using this
  rw[this];rfl
theorem Ck(s:fI)(hints:List Int)(hl:hints.length<=100000):NQ.Fn cx 118 [.agg (jB s), .slice 1 (hints.map dj)] (.d (.bool (mN s hints))) []:=by
 refine aM bf mixed Tryz.func118 (by kernel_rfl) rfl (ag rfl) ?_;conv=>whnf
 (refine⟨_,_,uT s,?_⟩;conv=>whnf)
 repeat' (first | (refine ae (fun h=>?_) (fun h=>?_) <;> (rw[h];conv=>whnf)) | fail)
 all_goals first
  | (refine af rfl ?_;show AV.d (D.bool false)=_;(try simp only[ak]at *);unfold mN;simp_all;done)
  | skip
 all_goals first
  | ((refine ⟨_, _, Cq hints hl, ?_⟩; conv => whnf)
     refine af rfl ?_;show AV.d (D.bool _)=AV.d (D.bool _)
     congr 2
     (try simp only[ak]at *)
     unfold mN
     simp_all;done)
  | (refine af rfl ?_;show AV.d (D.bool false)=_;(try simp only[ak]at *);unfold mN;simp_all;omega)
theorem zY(l:List oU)(hl:l.length<=100000):NQ.Fn cx 116 [.slice 3 (l.map j9)] (.d (.bool (kL l))) []:=by
 refine aM bf mixed Tryz.func116 (by kernel_rfl) rfl (ag rfl) ?_;conv=>whnf
 rw[ak];refine ae (fun h=>?_) (fun h=>?_) <;> (rw[h];conv=>whnf)
 . refine af rfl ?_;show AV.d (D.bool _)=AV.d (D.bool _)
   congr 2
   unfold kL;simp at h;simp;omega
 have hle:kL l=jq [] l:=by unfold kL;simp at h;simp;omega
 rw[hle];refine⟨Nat,fun k=>⟨[(10, .d (.slice 3 (l.map j9))),(11, .d (.int .i64 ((l.map j9).length:Int))),(12, .d (.int .i64 k)),(3, .omap 9)],[(9, .kmap (xM ((l.take k).map (·.addr))))]⟩,fun k=>k<=l.length/\jq ((l.take k).map (·.addr)) (l.drop k)=jq [] l,fun k=>l.length-k,
  ⟨0,⟨Nat.zero_le _,rfl⟩,an.keep ⟨⟨rfl,rfl⟩,⟨rfl,rfl⟩,⟨rfl,rfl⟩,⟨rfl,rfl⟩,trivial⟩ ⟨⟨rfl,rfl⟩,trivial⟩⟩,fun k ⟨hk,hinv⟩=>?_⟩
 conv=>whnf
 refine ae (fun h1=>?_) (fun h1=>?_) <;> (rw[h1];conv=>whnf)
 . have hlt:k<l.length:=by simpa using h1
   obtain⟨x,hx⟩:∃x,l[k]? =some x:=⟨_,ah hlt⟩
   rw[wR hx]at hinv;refine⟨aJ k,j9 x,aT hx,?_⟩
   conv=>whnf
   repeat' (first | (refine⟨_,_,iF x.name,?_⟩;conv=>whnf) | (refine⟨_,_,K6 x.name,?_⟩;conv=>whnf) | (refine⟨_,_,Cp x.addr,?_⟩;conv=>whnf) | (refine ae (fun h=>?_) (fun h=>?_) <;> (rw[h];conv=>whnf)) | (refine⟨_,rW x.addr _,?_⟩;cases hc:((l.take k).map (·.addr)).contains x.addr <;> (conv=>whnf)) | fail)
   all_goals first
    | (refine af rfl ?_;show AV.d (D.bool false)=AV.d (D.bool _);rw[<- hinv];simp_all;done)
    | (refine ⟨_, I6 hc, ?_⟩
       conv=>whnf
       refine⟨k+1,⟨hlt,?_⟩,by(show l.length-(k+1)<l.length-k;omega),an.keep ⟨⟨rfl,rfl⟩,⟨rfl,rfl⟩,⟨ar (by omega),rfl⟩,⟨rfl,rfl⟩,trivial⟩ ⟨⟨?_,rfl⟩,trivial⟩⟩
       . rw[bw hx,List.map_append];rw[<- hinv];simp_all
       . rw[bw hx,List.map_append];rfl)
 . obtain rfl:k=l.length:=by simp at h1;omega
   refine af rfl ?_;rw[<- hinv,List.drop_length];rfl
end Go.Proofs.YtcecidfnchcagaaGreatDoor
namespace NP
open NQ Go
def pmap(l:List ai):List (List D×D):=l.map fun p=>([.int .i64 p.host, .str p.zone.apex], .bool true)
def gz(p x:ai):Bool:=(p.host==x.host)&&(p.zone.apex==x.zone.apex)
theorem sV(p:ai):∀l:List ai,lP [.int .i64, .str] [.int .i64 p.host, .str p.zone.apex] (pmap l)=some (if l.any (gz p)=true then some (.bool true)else none)
 | []=>rfl
 | x::l=>by
  show(match cT [.int .i64, .str] [.d (.int .i64 p.host), .d (.str p.zone.apex)] [.d (.int .i64 x.host), .d (.str x.zone.apex)]with | some true=>_ | some false=>lP _ _ (pmap l) | none=>none)=_
  have:cT [.int .i64, .str] [.d (.int .i64 p.host), .d (.str p.zone.apex)] [.d (.int .i64 x.host), .d (.str x.zone.apex)]=some (gz p x):=by
   show some ((p.host==x.host)&&((p.zone.apex==x.zone.apex)&&true))=_
   rw[aB];rfl
  rw[this,List.any_cons];cases h:gz p x with
  | true=>simp
  | false=>simp only[ax];exact sV p l
theorem Kr{p:ai}{l:List ai}(h:l.any (gz p)=false):tS [.int .i64, .str] [.int .i64 p.host, .str p.zone.apex] (.bool true) (pmap l)=some (pmap (l++[p])):=by
 rw[wV (by rw[sV,h];rfl)];simp[pmap]
def apx(l:List ai):List (Bs×D):=l.foldl (fun m p=>cG p.zone.apex (.bool true) m) []
theorem I9(l:List ai)(p:ai):apx (l++[p])=cG p.zone.apex (.bool true) (apx l):=by unfold apx;rw[List.foldl_append];rfl
def fg(n:Nat):List ai->List ai->Bool
 | _,[]=>true
 | seen,p::t=> !(decide (p.host<0)||decide (p.host>=(n:Int))||seen.any (gz p)|| !bD p.zone)&&fg n (seen++[p]) t
def lj(w:bS):Bool:=decide ((w.zones.length:Int)<=4000)&&fg w.hosts.length [] w.zones&&decide (((apx w.zones).length:Int)<=500)
theorem uz{n:Nat}{l:List ai}{k:Nat}{p:ai}(hp:l[k]? =some p)(seen:List ai):fg n seen (l.drop k)=(!(decide (p.host<0)||decide (p.host>=(n:Int))||seen.any (gz p)|| !bD p.zone)&&fg n (seen++[p]) (l.drop (k+1))):=by
 rw[drop_cons hp];rfl
def cC(w:bS):Bool:=kL w.hosts&&lj w&&mN w.anchor w.hints
end NP
namespace Go.Proofs.YtcecidfnchcagaaGreatDoor
open NQ Go NP Go.RowKit
theorem yv(w:bS)(hl:w.zones.length<=100000):NQ.Fn cx 117 [.agg (cH w)] (.d (.bool (lj w))) []:=by
 refine aM bf mixed Tryz.func117 (by kernel_rfl) rfl (ag rfl) ?_;conv=>whnf
 rw[ak];refine ae (fun h=>?_) (fun h=>?_) <;> (rw[h];conv=>whnf)
 . refine af rfl ?_;show AV.d (D.bool _)=AV.d (D.bool _)
   congr 2
   unfold lj;simp at h;simp;omega
 have hle:lj w=(fg w.hosts.length [] w.zones&&decide (((apx w.zones).length:Int)<=500)):=by
  have:decide ((w.zones.length:Int)<=4000)=true:=by simp at h ⊢;omega
  unfold lj;rw[this,aC]
 rw[hle];refine⟨Nat,fun k=>⟨[(1, .ptr 1 0),(15, .d (.slice 3 (w.zones.map bZ))),(16, .d (.int .i64 ((w.zones.map bZ).length:Int))),(17, .d (.int .i64 k)),(3, .omap 12),(4, .omap 13)],[(1, .box ((cH w).map .d)),(12, .kmap (pmap (w.zones.take k))),(13, .smap (apx (w.zones.take k)))]⟩,fun k=>k<=w.zones.length/\fg w.hosts.length (w.zones.take k) (w.zones.drop k)=fg w.hosts.length [] w.zones,fun k=>w.zones.length-k,
  ⟨0,⟨Nat.zero_le _,rfl⟩,an.keep ⟨⟨rfl,rfl⟩,⟨rfl,rfl⟩,⟨rfl,rfl⟩,⟨rfl,rfl⟩,⟨rfl,rfl⟩,⟨rfl,rfl⟩,trivial⟩ ⟨⟨rfl,rfl⟩,⟨rfl,rfl⟩,⟨rfl,rfl⟩,trivial⟩⟩,fun k ⟨hk,hinv⟩=>?_⟩
 conv=>whnf
 refine ae (fun h1=>?_) (fun h1=>?_) <;> (rw[h1];conv=>whnf)
 . have hlt:k<w.zones.length:=by simpa using h1
   obtain⟨x,hx⟩:∃x,w.zones[k]? =some x:=⟨_,ah hlt⟩
   rw[uz hx]at hinv;refine⟨aJ k,bZ x,aT hx,?_⟩
   conv=>whnf
   repeat' (first | (refine⟨_,_,tJ x.zone,?_⟩;conv=>whnf) | (refine ae (fun h=>?_) (fun h=>?_) <;> (rw[h];conv=>whnf)) | (refine⟨_,sV x _,?_⟩;cases hc:(w.zones.take k).any (gz x) <;> (conv=>whnf)) | fail)
   all_goals first
    | (refine af rfl ?_;show AV.d (D.bool false)=AV.d (D.bool _);rw[<- hinv];clear hinv hle;(try simp only[ak]at *);simp only[*, if_true,if_false,av,aF,aE,aG,aK,aH,ax,aA,aB,aC,aD,az];done)
    | (refine ⟨_, Kr hc, ?_⟩
       conv=>whnf
       refine⟨k+1,⟨hlt,?_⟩,by(show w.zones.length-(k+1)<w.zones.length-k;omega),an.keep ⟨⟨rfl,rfl⟩,⟨rfl,rfl⟩,⟨rfl,rfl⟩,⟨ar (by omega),rfl⟩,⟨rfl,rfl⟩,⟨rfl,rfl⟩,trivial⟩ ⟨⟨rfl,rfl⟩,⟨?_,rfl⟩,⟨?_,rfl⟩,trivial⟩⟩
       . rw[bw hx];rw[<- hinv];clear hinv hle;(try simp only[ak]at *);simp only[*, if_true,if_false,av,aF,aE,aG,aK,aH,ax,aA,aB,aC,aD,az]
       . rw[bw hx];rfl
       . rw[bw hx,I9];rfl)
 . obtain rfl:k=w.zones.length:=by simp at h1;omega
   refine af rfl ?_;rw[<- hinv,List.drop_length,List.take_length];rfl
theorem zC(w:bS)(h1:w.hosts.length<=100000)(h2:w.zones.length<=100000)(h3:w.hints.length<=100000):NQ.Fn cx 54 [.agg (cH w)] (.d (.bool (cC w))) []:=by
 refine aM bf mixed Tryz.func54 (by kernel_rfl) rfl (ag rfl) ?_;conv=>whnf
 (refine⟨_,_,zY w.hosts h1,?_⟩;conv=>whnf)
 refine ae (fun h=>?_) (fun h=>?_) <;> (rw[h];conv=>whnf)
 . (refine⟨_,_,yv w h2,?_⟩;conv=>whnf)
   refine ae (fun h' =>?_) (fun h' =>?_) <;> (rw[h'];conv=>whnf)
   . (refine⟨_,_,Ck w.anchor w.hints h3,?_⟩;conv=>whnf)
     refine af rfl ?_;unfold cC;rw[h,h'];rfl
   . refine af rfl ?_;unfold cC;rw[h,h'];rfl
 . refine af rfl ?_;unfold cC;rw[h];rfl
end Go.Proofs.YtcecidfnchcagaaGreatDoor
namespace NP
open NQ Go
def de(a:Bs):List (Bs×Nat)->Option Nat
 | []=>none
 | (b,i)::t=>if a=b then some i else de a t
def dX(a:Bs)(i:Nat):List (Bs×Nat)->List (Bs×Nat)
 | []=>[(a,i)]
 | (b,j)::t=>if a=b then(b,i)::t else(b,j)::dX a i t
def oD(m:List (Bs×Nat)):List (Bs×D):=m.map fun p=>(p.1, .int .i64 (p.2:Int))
theorem Bq(a:Bs):∀m,cB a (oD m)=(de a m).map fun i=>D.int .i64 (i:Int)
 | []=>rfl
 | (b,i)::t=>by
  show(if a=b then _ else cB a (oD t))=_
  unfold de;split
  . rfl
  . exact Bq a t
theorem xZ(a:Bs)(i:Nat):∀m,cG a (.int .i64 (i:Int)) (oD m)=oD (dX a i m)
 | []=>rfl
 | (b,j)::t=>by
  show(if a=b then _ else _::cG a _ (oD t))=_
  unfold dX;split
  . rfl
  . rw[xZ a i t];rfl
theorem D1(a:Bs):∀m,fT (.str a) ((oD m).map gi)=some ((de a m).map fun i=>D.int .i64 (i:Int))
 | []=>rfl
 | (b,i)::t=>by
  show(match fo (.str a) [.tuple [.str b]]with | some true=>_ | some false=>fT (.str a) ((oD t).map gi) | none=>none)=_
  have:fo (.str a) [.tuple [.str b]]=some (a==b):=rfl;rw[this];unfold de;by_cases h:a=b
  . subst h;simp
  . have:(a==b)=false:=by simp[h]
    rw[this,if_neg h];exact D1 a t
theorem nw(a b:Bs)(i:Nat):∀m,de b (dX a i m)=if a=b then some i else de b m
 | []=>by
  simp only[dX,de];by_cases h:a=b
  . rw[if_pos h.symm,if_pos h]
  . rw[if_neg (Ne.symm h),if_neg h]
 | (c,j)::t=>by
  unfold dX;by_cases hc:a=c
  . rw[if_pos hc];subst hc;unfold de;by_cases h:b=a
    . rw[if_pos h,if_pos h.symm]
    . rw[if_neg h,if_neg h,if_neg (Ne.symm h)]
  . rw[if_neg hc];unfold de;by_cases h:b=c
    . rw[if_pos h,if_pos h,if_neg (fun e=>hc (e.trans h))]
    . rw[if_neg h,if_neg h];exact nw a b i t
def dg(p q:ai):Bool:=decide ((dA p.zone).1>(dA q.zone).1)||(decide ((dA p.zone).1=(dA q.zone).1)&&decide (p.host<q.host))
def dG(zs:List ai)(m:List (Bs×Nat))(p:ai):Bool:=match de p.zone.apex m with
 | none=>true
 | some j=>(match zs[j]? with | some q=>dg p q | none=>false)
def fW(zs:List ai):Nat->List ai->List (Bs×Nat)->List (Bs×Nat)
 | _,[],m=>m
 | i,p::t,m=>fW zs (i+1) t (if dG zs m p=true then dX p.zone.apex i m else m)
def cw(zs:List ai):List (Bs×Nat):=fW zs 0 zs []
theorem zx{zs l:List ai}{k:Nat}{p:ai}(hp:l[k]? =some p)(m:List (Bs×Nat)):fW zs k (l.drop k) m=fW zs (k+1) (l.drop (k+1)) (if dG zs m p=true then dX p.zone.apex k m else m):=by
 rw[drop_cons hp];rfl
def gq(zs:List ai)(m:List (Bs×Nat)):Prop:= ∀a j,de a m=some j-> ∃p,zs[j]? =some p/\p.zone.apex=a
theorem gq.put{zs:List ai}{m:List (Bs×Nat)}(h:gq zs m){i:Nat}{p:ai}(hp:zs[i]? =some p):gq zs (dX p.zone.apex i m):=by
 intro a j hj;rw[nw]at hj;split at hj
 . cases hj;exact⟨p,hp,by assumption⟩
 . exact h a j hj
theorem gq.go{zs:List ai}:∀(l:List ai) (i:Nat) (m:List (Bs×Nat)),(∀j,l[j]? =zs[i+j]?)->gq zs m->gq zs (fW zs i l m)
 | [],i,m,_,h=>h
 | p::t,i,m,hl,h=>by
  unfold fW;refine gq.go t (i+1) _ (fun j=>by have:=hl (j+1);simp at this;rw[this];congr 1;omega) ?_;split
  . exact h.put (by have:=hl 0;simpa using this.symm)
  . exact h
theorem nz(zs:List ai):gq zs (cw zs):=gq.go zs 0 [] (fun j=>by rw[Nat.zero_add]) (fun a j h=>by cases h)
def Aj(w:bS)(m:List (Bs×Nat)):List D:=cH w++[.kmap ((oD m).map gi)]
def iC(zs:List ai)(m:List (Bs×Nat))(q:aW):Nat->Bs->Ans×Bool
 | 0,_=>(gr,false)
 | f+1,a=>match de a m with
  | none=>(gr,false)
  | some i=>(match zs[i]? with
   | some p=>if ((bF p.zone q).1.kind != 4)=true then((bF p.zone q).1,true)else iC zs m q f (bF p.zone q).1.cut
   | none=>(gr,false))
def dq(zs:List ai):Prop:= ∀p∈zs,eu p.zone=true/\bD p.zone=true
theorem gy{z:aP}{q:aW}(u:Use z q)(hk:((bF z q).1.kind != 4)=false):aL q.name (bF z q).1.cut=true/\(back z.apex).length<(back (bF z q).1.cut).length/\aj (bF z q).1.cut=true/\(bF z q).1.cut∈cD z.apex z.sets:=by
 cases hr:eC (vw z q)with
 | false =>
  have:=(u.Ed hr).1;simp only[bne,this]at hk;cases hk
 | true =>
  obtain⟨s0,R,h1,h2,h3,_⟩:=u.Lp hr;rw[h3];have hne:bq z q.name ≠ []:=by intro e;rw[Co,e]at hr;cases hr
  have hcut:bq z q.name∈cD z.apex z.sets/\aL q.name (bq z q.name)=true:=by
   unfold bq at hne ⊢;cases hf:(cD z.apex z.sets).find? fun c=>aL q.name c with
   | none=>rw[hf]at hne;exact absurd rfl hne
   | some c=>exact⟨List.mem_of_find?_eq_some hf,by have:=List.find?_some hf;simpa using this⟩
  obtain⟨hc,hu⟩:=hcut;have ho:=u.ord;obtain⟨s,hs,hi,he⟩:=(lk z.apex _ z.sets).1 hc;have hua:=ho.under s hs;have hsv:=ho.name s hs;unfold bI at hua;rw[if_pos ⟨hsv,ho.apex⟩,he]at hua;refine⟨hu,?_,he ▸ hsv,hc⟩;have hpre:=(ee _ _).1 hua;have hle:=hpre.length_le;rcases Nat.lt_or_ge (back z.apex).length (back (bq z q.name)).length with h | h
  . exact h
  . have e:back z.apex=back (bq z q.name):=hpre.eq_of_length (by omega);have:bq z q.name=z.apex:=rE hua ((ee _ _).2 (by rw[e];exact List.prefix_rfl));unfold dJ at hi;rw[he,this]at hi;simp at hi
end NP
namespace Go.Proofs.YtcecidfnchcagaaGreatDoor
open NQ Go NP Go.RowKit
theorem FE(w:bS)(hl:w.zones.length<=100000):NQ.Fn cx 111 [.agg (cH w)] (.agg ((Aj w (cw w.zones)).map .d)) []:=by
 refine cV (fun | 9=>[9] | _=>[]) bf mixed Tryz.func111 (by kernel_rfl) rfl (ag rfl) ?_
 conv=>whnf
 refine ⟨Nat × List (Bs × Nat), fun x => ⟨[(2, .ptr 2 0), (3, .ptr 3 0), (13, .d (.slice 3 (w.zones.map bZ))), (14, .d (.int .i64 ((w.zones.map bZ).length : Int))), (15, .d (.int .i64 x.1))],
     [(2, .box [.nil 3, .nil 3, .d (.str []), .d (.int .i64 0), .d (.int .i64 0), .nil 3, .nil 1, .d .nmap]),(3, .box ((cH w).map .d++[.omap 9])),(9, .smap (oD x.2))]⟩,
  fun x=>x.1<=w.zones.length/\gq w.zones x.2/\fW w.zones x.1 (w.zones.drop x.1) x.2=cw w.zones,fun x=>w.zones.length-x.1,
  ⟨(0,[]),⟨Nat.zero_le _,(fun a j h=>by cases h),rfl⟩,an.keep ⟨⟨rfl,rfl⟩,⟨rfl,rfl⟩,⟨rfl,rfl⟩,⟨rfl,rfl⟩,⟨rfl,rfl⟩,trivial⟩ ⟨⟨rfl,rfl⟩,⟨rfl,rfl⟩,⟨rfl,rfl⟩,trivial⟩⟩,fun⟨k,m⟩ ⟨hk,hok,hinv⟩=>?_⟩
 dsimp only at hk hok hinv ⊢
 conv=>whnf
 refine ae (fun h1=>?_) (fun h1=>?_) <;> (rw[h1];conv=>whnf)
 . have hlt:k<w.zones.length:=by simpa using h1
   obtain⟨x,hx⟩:∃x,w.zones[k]? =some x:=⟨_,ah hlt⟩
   rw[zx hx]at hinv;refine⟨aJ k,bZ x,aT hx,?_⟩
   conv=>whnf
   rw[Bq];have again:∀m',(m' =if dG w.zones m x=true then dX x.zone.apex k m else m)->(k+1<=w.zones.length/\gq w.zones m' /\fW w.zones (k+1) (w.zones.drop (k+1)) m' =cw w.zones):=fun m' e=>by
    refine⟨hlt,?_,by rw[e];exact hinv⟩;rw[e];split
    . exact hok.put hx
    . exact hok
   cases hf:de x.zone.apex m with
   | none =>
    conv=>whnf
    (refine⟨(by kernel_rfl:bA _ _=true),?_⟩;conv=>whnf)
    have ht:dG w.zones m x=true:=by unfold dG;rw[hf]
    refine⟨(k+1,dX x.zone.apex k m),again _ (by rw[if_pos ht]),by(show w.zones.length-(k+1)<w.zones.length-k;omega),an.keep ⟨⟨rfl,rfl⟩,⟨rfl,rfl⟩,⟨rfl,rfl⟩,⟨rfl,rfl⟩,⟨ar (by omega),rfl⟩,trivial⟩ ⟨⟨rfl,rfl⟩,⟨rfl,rfl⟩,⟨?_,rfl⟩,trivial⟩⟩;show some (Blk.smap (cG x.zone.apex (.int .i64 (k:Int)) (oD m)))=_
    rw[xZ]
   | some j =>
    conv=>whnf
    (refine⟨(by kernel_rfl:bA _ _=true),?_⟩;conv=>whnf)
    obtain⟨p,hp,hpa⟩:=hok _ j hf;refine⟨aJ j,bZ p,aT hp,?_⟩
    conv=>whnf
    (refine⟨_,_,Kg x p,?_⟩;conv=>whnf)
    have ht:dG w.zones m x=dg x p:=by unfold dG;rw[hf];dsimp only;rw[hp]
    refine ae (fun h2=>?_) (fun h2=>?_) <;> (rw[h2];conv=>whnf)
    . have ht:dG w.zones m x=true:=ht.trans h2;refine⟨(k+1,dX x.zone.apex k m),again _ (by rw[if_pos ht]),by(show w.zones.length-(k+1)<w.zones.length-k;omega),an.keep ⟨⟨rfl,rfl⟩,⟨rfl,rfl⟩,⟨rfl,rfl⟩,⟨rfl,rfl⟩,⟨ar (by omega),rfl⟩,trivial⟩ ⟨⟨rfl,rfl⟩,⟨rfl,rfl⟩,⟨?_,rfl⟩,trivial⟩⟩;show some (Blk.smap (cG x.zone.apex (.int .i64 (k:Int)) (oD m)))=_
      rw[xZ]
    . have ht:dG w.zones m x=false:=ht.trans h2;exact⟨(k+1,m),again _ (by rw[if_neg (by rw[ht];simp)]),by(show w.zones.length-(k+1)<w.zones.length-k;omega),an.keep ⟨⟨rfl,rfl⟩,⟨rfl,rfl⟩,⟨rfl,rfl⟩,⟨rfl,rfl⟩,⟨ar (by omega),rfl⟩,trivial⟩ ⟨⟨rfl,rfl⟩,⟨rfl,rfl⟩,⟨rfl,rfl⟩,trivial⟩⟩
 . obtain rfl:k=w.zones.length:=by simp at h1;omega
   rw[List.drop_length]at hinv;obtain rfl:m=cw w.zones:=hinv;exact af rfl rfl
end Go.Proofs.YtcecidfnchcagaaGreatDoor
namespace NP
open NQ Go
theorem ij(a:Bs):aL a [46]=true:=by
 rw[ee];show([]:List Bs) <+: _
 exact List.nil_prefix
def cq(zs:List ai)(q:aW):Ans×Bool:=iC zs (cw zs) q ((back q.name).length+2) [46]
theorem tq{zs:List ai}{q:aW}(hg:dq zs)(hq:bB q=true){m:List (Bs×Nat)}(hm:gq zs m){a:Bs}(hu:aL q.name a=true){f:Nat}(hf:(back q.name).length+1<=f+(back a).length){i:Nat}{p:ai}(hi:de a m=some i)(hp:zs[i]? =some p)
 (hk:((bF p.zone q).1.kind != 4)=false):Use p.zone q/\aL q.name (bF p.zone q).1.cut=true/\(back a).length<(back (bF p.zone q).1.cut).length/\1<=f:=by
 obtain⟨p',hp',ha⟩:=hm a i hi;rw[hp]at hp';cases hp';obtain⟨g1,g2⟩:=hg p (ao hp);have u:Use p.zone q:=⟨g1,g2,hq,by rw[ha];exact hu⟩
 obtain⟨r1,r2,_⟩:=gy u hk;rw[ha]at r2;refine⟨u,r1,r2,?_⟩;have:=((ee _ _).1 r1).length_le;omega
end NP
namespace Go.Proofs.YtcecidfnchcagaaGreatDoor
open NQ Go NP Go.RowKit
theorem zW(w:bS)(q:aW)(hg:dq w.zones)(hq:bB q=true):NQ.Fn cx 112 [.agg (Aj w (cw w.zones)), .agg (cm q)] (.tuple [.agg ((dv (cq w.zones q).1).map .d), .d (.bool (cq w.zones q).2)]) []:=by
 refine cV (fun _=>[]) bf mixed Tryz.func112 (by kernel_rfl) rfl (ag rfl) ?_
 conv=>whnf
 refine⟨Nat×Bs,fun x=>⟨[(2, .ptr 2 0),(3, .ptr 3 0),(4, .ptr 4 0),(6, .d (.str x.2))],[(2, .box ((Aj w (cw w.zones)).map .d)),(3, .box ((cm q).map .d)),(4, .box [.d (.int .i64 0), .nil 5, .d (.str [])])]⟩,
  fun x=>aL q.name x.2=true/\(back q.name).length+1<=x.1+(back x.2).length/\iC w.zones (cw w.zones) q (x.1+1) x.2=cq w.zones q,fun x=>x.1,
  ⟨((back q.name).length+1,[46]),⟨ij q.name,by omega,rfl⟩,an.keep ⟨⟨rfl,rfl⟩,⟨rfl,rfl⟩,⟨rfl,rfl⟩,⟨rfl,rfl⟩,trivial⟩ ⟨⟨rfl,rfl⟩,⟨rfl,rfl⟩,⟨rfl,rfl⟩,trivial⟩⟩,fun⟨f,a⟩ ⟨hu,hf,hinv⟩=>?_⟩
 dsimp only at hu hf hinv ⊢
 conv=>whnf
 refine⟨_,D1 a (cw w.zones),?_⟩;unfold iC at hinv;cases hfi:de a (cw w.zones)with
 | none =>
  rw[hfi]at hinv
  conv=>whnf
  refine af rfl ?_;rw[<- hinv];rfl
 | some i =>
  rw[hfi]at hinv
  conv=>whnf
  try (refine⟨(by kernel_rfl:bA _ _=true),?_⟩;conv=>whnf)
  obtain⟨p,hp,hpa⟩:=nz w.zones a i hfi;have hg' :=hg p (ao hp);refine⟨aJ i,bZ p,aT hp,?_⟩
  conv=>whnf
  (refine⟨_,_,Gz p.zone q hg'.1,?_⟩;conv=>whnf)
  dsimp only at hinv;rw[hp]at hinv;dsimp only at hinv;refine ae (fun h2=>?_) (fun h2=>?_) <;> (rw[h2];conv=>whnf)
  . have h2' :((bF p.zone q).1.kind != 4)=true:=h2;rw[if_pos h2']at hinv;refine af rfl ?_;rw[<- hinv];rfl
  . have h2' :((bF p.zone q).1.kind != 4)=false:=h2;rw[if_neg (by rw[h2'];simp)]at hinv;obtain⟨u,r1,r2,r3⟩:=tq hg hq (nz w.zones) hu hf hfi hp h2';obtain⟨f,rfl⟩:∃g,f=g+1:=⟨f-1,by omega⟩
    exact⟨(f,(bF p.zone q).1.cut),⟨r1,by dsimp only;omega,hinv⟩,by(show f<f+1;omega),an.keep ⟨⟨rfl,rfl⟩,⟨rfl,rfl⟩,⟨rfl,rfl⟩,⟨rfl,rfl⟩,trivial⟩ ⟨⟨rfl,rfl⟩,⟨rfl,rfl⟩,⟨rfl,rfl⟩,trivial⟩⟩
end Go.Proofs.YtcecidfnchcagaaGreatDoor
namespace NP
open NQ Go
theorem tn{zs:List ai}{q:aW}(hg:dq zs)(hq:bB q=true){m:List (Bs×Nat)}(hm:gq zs m):∀(f:Nat) (a:Bs),aL q.name a=true-> ∀x,iC zs m q f a=(x,true)-> ∃p∈zs,Use p.zone q/\x=(bF p.zone q).1/\(x.kind != 4)=true
 | 0,a,hu,x,h=>by cases h
 | f+1,a,hu,x,h=>by
  unfold iC at h;cases hi:de a m with
  | none=>rw[hi]at h;cases h
  | some i =>
   rw[hi]at h;obtain⟨p,hp,ha⟩:=hm a i hi;dsimp only at h;rw[hp]at h;dsimp only at h;have hmem:=ao hp;obtain⟨g1,g2⟩:=hg p hmem;have u:Use p.zone q:=⟨g1,g2,hq,by rw[ha];exact hu⟩
   cases hk:((bF p.zone q).1.kind != 4)with
   | true=>rw[hk,if_pos rfl]at h;cases h;exact⟨p,hmem,u,rfl,hk⟩
   | false =>
    rw[hk,if_neg (by simp)]at h;exact tn hg hq hm f _ (gy u hk).1 x h
theorem s5{zs:List ai}{q:aW}(hg:dq zs)(hq:bB q=true){x:Ans}(h:cq zs q=(x,true)):∃p∈zs,Use p.zone q/\x=(bF p.zone q).1/\(x.kind != 4)=true :=
 tn hg hq (nz zs) _ _ (ij q.name) x h
theorem Gv{s:fI}(h:dW s=true)(ht:s.type=3):∃d,s.data=[d]/\aj d.text=true:=by
 unfold dW at h;simp only[aN,Bool.not_eq_true',Bool.or_eq_false_iff,Bool.not_eq_false']at h;obtain⟨⟨⟨⟨_,_⟩,hw⟩,hs,_⟩,hall⟩:=h;rw[ht]at hs hall;have h1:s.data.length=1:=by
  have:(fe 3).single=true:=rfl;rw[this,aC]at hs;have:(s.data.length:Int)=1:=by simpa using hs
  omega
 obtain⟨d,hd⟩:∃d,s.data=[d]:=List.length_eq_one_iff.1 h1;refine⟨d,hd,?_⟩;rw[hd]at hall;have:=ay.1 hall 0 (by simp);rw[vz (d:=d) (p:=d) rfl rfl]at this;unfold nh at this;simp only[Bool.not_eq_true',Bool.or_eq_false_iff,Bool.not_eq_false']at this;have hv:=this.1;unfold fq at hv;simp only[aN]at hv;have ht:=hv.2;have e:(fe 3).text=1:=rfl;rw[e]at ht;simp only[jX,if_true,aN]at ht;exact ht.1
theorem Use.Gt{z:aP}{q:aW}(u:Use z q)(hk:(bF z q).1.kind=3):∃s R d,(bF z q).1.sets=s::R/\s∈z.sets/\s.set.type=3/\s.set.data=[d]/\aj d.text=true:=by
 have key:∀(q' :aW) (rest:List Int),q'.type=3->(decide (atI z.sets q' >=0))=true->(bF z q).1.sets=cg z.sets [] (atI z.sets q' ::rest)-> ∃s R d,(bF z q).1.sets=s::R/\s∈z.sets/\s.set.type=3/\s.set.data=[d]/\aj d.text=true:=fun q' rest ht hat hs=>by
  have hh:b9 z.sets q' =true:=by
   have:=jl z.sets q';cases hc:b9 z.sets q' with
   | true=>rfl
   | false=>rw[hc]at this;simp at this hat;omega
  obtain⟨k,s,h1,h2,h3⟩:=nN hh;have hm:=ao h2;have ht3:s.set.type=3:=by have:=congrArg Prod.snd h3;exact(show s.set.type=q'.type from this).trans ht
  obtain⟨d,hd,hv⟩:=Gv (u.ord.set s hm) ht3;refine⟨s,cg z.sets ([]++[atI z.sets q']) rest,d,?_,hm,ht3,hd,hv⟩;rw[hs,cg,if_neg (by rw[h1];simp),h1];simp[h2]
 rw[u.ans]at hk key ⊢;dsimp only at hk key ⊢;unfold ff at hk key ⊢;split at hk
 . exfalso;rename_i hr;unfold jh at hk;rw[if_pos hr]at hk;simp at hk
 rename_i hr;rw[if_neg hr]at key ⊢;split at hk
 . simp[wC]at hk
 rename_i hd;rw[if_neg hd]at key ⊢;split at hk
 . rename_i ha;rw[if_pos ha]at key ⊢;have:decide (atI z.sets ⟨q.name,3⟩>=0)=true:=by unfold mX at ha;simp only[aN]at ha;exact ha.1
   exact key ⟨q.name,3⟩ [] rfl this rfl
 rename_i ha;rw[if_neg ha]at key ⊢;split at hk
 . exfalso;rename_i hx;unfold kj at hk;rw[if_pos hx]at hk;simp at hk
 rename_i hx;rw[if_neg hx]at key ⊢;split at hk
 . simp[xF]at hk
 rename_i hw;rw[if_neg hw]at key ⊢;split at hk
 . rename_i hwa;rw[if_pos hwa]at key ⊢;have hs:(cd (vw z q)).sets=z.sets:=uP _;have:decide (atI z.sets ⟨(cd (vw z q)).cN,3⟩>=0)=true:=by unfold fu at hwa;simp only[aN]at hwa;rw[hs]at hwa;exact hwa.1
   refine key ⟨(cd (vw z q)).cN,3⟩ [eG (cd (vw z q)).sets (cd (vw z q)).q.name] rfl this ?_;unfold ma;rw[hs]
 rename_i hwa;split at hk
 . exfalso;unfold kA at hk;(try split at hk) <;> simp at hk
 . exfalso;unfold jt at hk;(try split at hk) <;> simp at hk
def kx(zs:List ai):Nat->aW->List Signed->Ans×Int
 | 0,_,_=>(gr,33)
 | f+1,q,kept=>if (!(cq zs q).2)=true then(gr,34)else if ((cq zs q).1.kind != 3)=true then(⟨(cq zs q).1.kind,kept++(cq zs q).1.sets,(cq zs q).1.cut⟩,0)
  else match (cq zs q).1.sets.head? with
   | some s=>(match s.set.data.head? with | some d=>kx zs f ⟨d.text,q.type⟩ (kept++[s]) | none=>(gr,0))
   | none=>(gr,0)
def kP(w:bS)(q:aW):Ans×Int:=if (cC w&&bB q)=false then(gr,1)else kx w.zones 9 q []
theorem r9{n:Nat}:∀(l seen:List ai),fg n seen l=true-> ∀p∈l,bD p.zone=true/\0<=p.host/\p.host<(n:Int)
 | [],_,_,p,hp=>by cases hp
 | x::t,seen,h,p,hp=>by
  unfold fg at h;simp only[aN,Bool.not_eq_true',Bool.or_eq_false_iff,Bool.not_eq_false',decide_eq_false_iff_not]at h;rcases List.mem_cons.1 hp with rfl | hp
  . exact⟨h.1.2,by omega,by omega⟩
  . exact r9 t _ h.2 p hp
theorem oS{w:bS}(h:cC w=true):∀p∈w.zones,bD p.zone=true/\0<=p.host/\p.host<(w.hosts.length:Int):=by
 unfold cC lj at h;simp only[aN]at h;exact r9 _ _ h.1.2.1.2
structure kB(w:bS):Prop where
 hosts:w.hosts.length<=1000
 zones:w.zones.length<=1000
 hints:w.hints.length<=1000
 few:∀p∈w.zones,eu p.zone=true
end NP
namespace Go.Proofs.YtcecidfnchcagaaGreatDoor
open NQ Go NP Go.RowKit
set_option maxHeartbeats 1000000 in
theorem Ci(w:bS)(q0:aW)(hF:kB w):NQ.Fn cx 50 [.agg (cH w), .agg (cm q0)] (.tuple [.agg ((dv (kP w q0).1).map .d), .d (.int .i64 (kP w q0).2)]) []:=by
 refine cV (fun _=>[]) bf mixed Tryz.func50 (by kernel_rfl) rfl (ag rfl) ?_
 conv=>whnf
 (refine⟨_,_,zC w (by have:=hF.hosts;omega) (by have:=hF.zones;omega) (by have:=hF.hints;omega),?_⟩;conv=>whnf)
 have bad:∀(b:Bool),(cC w&&bB q0)=false->kP w q0=(gr,1):=fun _ h=>by unfold kP;rw[if_pos h]
 repeat' (first | (refine⟨_,_,IQ q0,?_⟩;conv=>whnf) | (refine ae (fun h=>?_) (fun h=>?_) <;> (rw[h];conv=>whnf)) | fail)
 . refine af rfl ?_;rw[bad true (by simp_all)];rfl
 . refine af rfl ?_;rw[bad true (by simp_all)];rfl
 have hval:cC w=true:=by simpa using ‹(!cC w)=false›
 have hq0:bB q0=true:=by simpa using ‹(!bB q0)=false›
 have hg:dq w.zones:=fun p hp=>⟨hF.few p hp,(oS hval p hp).1⟩
 have htr:kP w q0=kx w.zones 9 q0 []:=by unfold kP;rw[if_neg (by rw[hval,hq0];simp)]
 (refine⟨_,_,FE w (by have:=hF.zones;omega),?_⟩;conv=>whnf)
 refine⟨aW×List Signed,fun x=>⟨[(2, .ptr 2 0),(3, .ptr 3 0),(4, .ptr 4 0),(6, .ptr 6 0),(7, .own 7)],[(2, .box ((cH w).map .d)),(3, .box ((cm x.1).map .d)),(4, .box [.d (.int .i64 0), .nil 5, .d (.str [])]),(6, .box ((Aj w (cw w.zones)).map .d)),(7, .row 79 5 (x.2.map au))]⟩,
  fun x=>bB x.1=true/\x.2.length<=8/\kx w.zones (9-x.2.length) x.1 x.2=kP w q0,fun x=>9-x.2.length,
  ⟨(q0,[]),⟨hq0,by simp,by rw[htr];rfl⟩,(an.lu 7 7 5 79 5 rfl rfl (by decide)).trans (an.keep ⟨⟨rfl,rfl⟩,⟨rfl,rfl⟩,⟨rfl,rfl⟩,⟨rfl,rfl⟩,⟨rfl,rfl⟩,trivial⟩ ⟨⟨rfl,rfl⟩,⟨rfl,rfl⟩,⟨rfl,rfl⟩,⟨rfl,rfl⟩,⟨rfl,rfl⟩,trivial⟩)⟩,fun⟨q,kept⟩ ⟨hq,hkl,hinv⟩=>?_⟩
 dsimp only at hq hkl hinv ⊢
 conv=>whnf
 obtain⟨f,hf⟩:∃f,9-kept.length=f+1:=⟨8-kept.length,by omega⟩
 rw[hf]at hinv;unfold kx at hinv
 (refine⟨_,_,zW w q hg hq,?_⟩;conv=>whnf)
 refine ae (fun h1=>?_) (fun h1=>?_) <;> (rw[h1];conv=>whnf)
 . rw[if_pos h1]at hinv;refine af rfl ?_;rw[<- hinv];rfl
 rw[if_neg (by rw[h1];simp)]at hinv;have hok:(cq w.zones q).2=true:=by simpa using h1
 obtain⟨p,hpm,u,hpa,hp4⟩:=s5 hg hq (x:=(cq w.zones q).1) (by rw[<- hok]);have hal:(cq w.zones q).1.sets.length<=1000:=by rw[hpa];exact DI u.few q
 refine ae (fun h2=>?_) (fun h2=>?_) <;> (rw[h2];conv=>whnf)
 . rw[if_pos h2]at hinv;refine⟨by(show(kept.map au).length+((cq w.zones q).1.sets.map au).length<=_);simp;omega,by(show((kept.map au).length+((cq w.zones q).1.sets.map au).length)*80<=_);simp;omega,?_⟩
   conv=>whnf
   refine af rfl ?_;rw[<- hinv];show AV.tuple _=AV.tuple _
   simp[dv];exact⟨rfl,rfl⟩
 rw[if_neg (by rw[h2];simp)]at hinv;have hk3:(bF p.zone q).1.kind=3:=by rw[<- hpa];simpa using h2
 obtain⟨s,R,d,hs,hsm,hst,hsd,hdv⟩:=u.Gt hk3;rw[<- hpa]at hs;rw[hs]at hinv;simp only[List.head?_cons,hsd]at hinv;refine ae (fun h3=>?_) (fun h3=>?_) <;> (rw[h3];conv=>whnf)
 . have hl8:kept.length=8:=by simp at h3;omega
   have:f=0:=by omega
   subst this;refine af rfl ?_;rw[<- hinv];rfl
 . rw[hs];refine⟨by decide,au s,rfl,?_⟩
   conv=>whnf
   refine⟨by(show(kept.map au).length+1<=_);simp;omega,by(show((kept.map au).length+1)*80<=_);simp;omega,?_⟩
   conv=>whnf
   refine⟨by decide,au s,rfl,?_⟩
   conv=>whnf
   refine⟨by decide,b5 d,(by rw[hsd];rfl:(s.set.data.map b5)[(0:Int).toNat]? =some (b5 d)),?_⟩
   conv=>whnf
   have hl8:kept.length<8:=by simp at h3;omega
   refine⟨(⟨d.text,q.type⟩,kept++[s]),⟨?_,by simp;omega,?_⟩,by(show 9-(kept++[s]).length<9-kept.length);simp;omega,an.keep ⟨⟨rfl,rfl⟩,⟨rfl,rfl⟩,⟨rfl,rfl⟩,⟨rfl,rfl⟩,⟨rfl,rfl⟩,trivial⟩ ⟨⟨rfl,rfl⟩,⟨rfl,rfl⟩,⟨rfl,rfl⟩,⟨rfl,rfl⟩,⟨?_,rfl⟩,trivial⟩⟩
   . unfold bB at hq ⊢;simp only[aN]at hq ⊢;exact⟨⟨hdv,hq.1.2⟩,hq.2⟩
   . rw[<- hinv]
     congr 1
     simp;omega
   . show some (Blk.row _ _ (kept.map au++[au s]) _)=_
     rw[List.map_append];rfl
end Go.Proofs.YtcecidfnchcagaaGreatDoor
