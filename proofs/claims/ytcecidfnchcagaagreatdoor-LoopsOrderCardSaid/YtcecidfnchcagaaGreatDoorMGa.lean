/-
  Texts of the proof, merged in build order.
-/
import Derived.Test.YtcecidfnchcagaaGreatDoorMQrc
import Derived.Test.YtcecidfnchcagaaGreatDoorMLrc
import Derived.Test.YtcecidfnchcagaaGreatDoorMCa
set_option linter.all false
set_option maxRecDepth 100000
namespace NP
open NQ Go
structure de where
 name:Bs
 addr:Int
 owner:Int
 deriving DecidableEq
structure ag where
 host:Int
 zone:aA
 deriving DecidableEq
structure aQ where
 hosts:List de
 zones:List ag
 anchor:eZ
 hints:List Int
def jW(h:de):List D:=[.str h.name, .int .i64 h.addr, .int .i64 h.owner]
def bx(p:ag):List D:=[.int .i64 p.host, .str p.zone.apex, .slice 5 (p.zone.sets.map ay)]
def bp(w:aQ):List D:=[.slice 3 (w.hosts.map jW), .slice 3 (w.zones.map bx), .str w.anchor.name, .int .i64 w.anchor.type, .int .i64 w.anchor.life, .slice 3 (w.anchor.data.map bG), .slice 1 (w.hints.map fun n=>[.int .i64 n])]
end NP
namespace Go.Proofs.YtcecidfnchcagaaGreatDoor
open NQ Go NP Go.RowKit
end Go.Proofs.YtcecidfnchcagaaGreatDoor
namespace NP
open NQ Go
def G5(s:Bs):Int:=((di s).1.length:Int)
end NP
namespace Go.Proofs.YtcecidfnchcagaaGreatDoor
open NQ Go NP Go.RowKit
end Go.Proofs.YtcecidfnchcagaaGreatDoor
namespace NP
open NQ Go
def Hq(s:Bs):List ag->Bs×Int->Bs×Int
 | [],b=>b
 | p::t,b=>Hq s t (if (bd s p.zone.apex).1=true/\b.2<G5 p.zone.apex then(p.zone.apex,G5 p.zone.apex)else b)
def hAt(s:Bs)(w:aQ)(k:Nat):Bs×Int:=Hq s ((w.zones.filter fun p=>(bd s p.zone.apex).1).take k) ([], -1)
end NP
namespace Go.Proofs.YtcecidfnchcagaaGreatDoor
open NQ Go NP Go.RowKit
theorem Kz(p q:ag):NQ.Fn cx 181 [.agg (bx p), .agg (bx q)] (.d (.bool (decide ((cP p.zone).1>(cP q.zone).1)||(decide ((cP p.zone).1=(cP q.zone).1)&&decide (p.host<q.host))))) []:=by
 refine av aH mixed Tryz.func181 (by kernel_rfl) rfl (Nat.le_of_ble_eq_true rfl) ?_;conv=>whnf
 (refine⟨_,_,s5 p.zone,?_⟩;conv=>whnf)
 (refine⟨_,_,s5 q.zone,?_⟩;conv=>whnf)
 repeat' (first | (refine ae (fun h=>?_) (fun h=>?_) <;> (rw[h];conv=>whnf)) | fail)
 all_goals (refine af rfl ?_;show AV.d (D.bool _)=AV.d (D.bool _);congr 2 <;> simp_all)
end Go.Proofs.YtcecidfnchcagaaGreatDoor
namespace NP
open NQ Go
def dM(n:Int):Bool:=decide (n>=1)&&decide (n<=1000000)
def pa(s:Bs):Bool:=(di s).1.head? ==some [42]
theorem Lq{s:Bs}(h:ai s=true):pa s=dU s:=by
 rw[zw h];unfold pa di;rw[if_pos h]
def xG(l:List Int):List (List D×D):=l.map fun a=>([.tuple [.int .i64 a]], .bool true)
theorem rO(a:Int):∀l:List Int,fj (.int .i64 a) (xG l)=some (if l.contains a=true then some (.bool true)else none)
 | []=>rfl
 | x::l=>by
  show(match eH (.int .i64 a) [.tuple [.int .i64 x]]with | some true=>_ | some false=>fj (.int .i64 a) (xG l) | none=>none)=_
  have:eH (.int .i64 a) [.tuple [.int .i64 x]]=some (a==x):=by simp[eH]
  rw[this];cases h:(a==x)with
  | true => have e : a = x := by simpa using h
            subst e;simp
  | false=>simp only[List.contains_cons,h,Bool.false_or];exact rO a l
theorem Jk{a:Int}{l:List Int}(h:l.contains a=false):tW (.int .i64 a) (.bool true) (xG l)=some (xG (l++[a])):=by
 rw[Gc (by rw[rO,h];rfl)];simp[xG]
def dh:List Int->List de->Bool
 | _,[]=>true
 | seen,h::t=> !(!ai h.name||pa h.name||decide (h.owner<0)||decide (h.owner>=32))&& !(!dM h.addr||seen.contains h.addr)&&dh (seen++[h.addr]) t
def iR(l:List de):Bool:=decide ((l.length:Int)<=64)&&dh [] l
theorem wM{l:List de}{k:Nat}{h:de}(hh:l[k]? =some h)(seen:List Int):dh seen (l.drop k)=(!(!ai h.name||pa h.name||decide (h.owner<0)||decide (h.owner>=32))&& !(!dM h.addr||seen.contains h.addr)&&dh (seen++[h.addr]) (l.drop (k+1))):=by
 rw[drop_cons hh];rfl
def mg(s:eZ)(hints:List Int):Bool:=dt s&&(s.type==6)&&(s.name==[46])&&decide ((hints.length:Int)>=1)&&decide ((hints.length:Int)<=8)&&hints.all dM
end NP
namespace Go.Proofs.YtcecidfnchcagaaGreatDoor
open NQ Go NP Go.RowKit
theorem I8(q:aI):NQ.Fn cx 110 [.agg (bX q)] (.d (.bool (bu q))) []:=by
 refine av aH mixed Tryz.func110 (by kernel_rfl) rfl (Nat.le_of_ble_eq_true rfl) ?_;conv=>whnf
 (refine⟨_,_,im q.name,?_⟩;conv=>whnf)
 repeat' (first | (refine ae (fun h=>?_) (fun h=>?_) <;> (rw[h];conv=>whnf)) | (refine af rfl ?_;show AV.d (D.bool false)=_;(try simp only[List.length_map]at *);simp only[bu, *, if_true,if_false,Bool.false_eq_true,Bool.not_true,Bool.not_false,Bool.not_not,Bool.true_or,Bool.or_true,Bool.false_or,Bool.or_false,Bool.and_true,Bool.true_and,Bool.false_and,Bool.and_false];done) | (refine af rfl ?_;show AV.d (D.bool true)=_;(try simp only[List.length_map]at *);simp only[bu, *, if_true,if_false,Bool.false_eq_true,Bool.not_true,Bool.not_false,Bool.not_not,Bool.true_or,Bool.or_true,Bool.false_or,Bool.or_false,Bool.and_true,Bool.true_and,Bool.false_and,Bool.and_false];done) | fail)
 all_goals (refine af rfl ?_;show AV.d (D.bool _)=AV.d (D.bool _);congr 2;simp_all [bu])
theorem Co(n:Int):NQ.Fn cx 188 [.int .i64 n] (.d (.bool (dM n))) []:=by
 refine av aH mixed Tryz.func188 (by kernel_rfl) rfl (Nat.le_of_ble_eq_true rfl) ?_;conv=>whnf
 repeat' (first | (refine ae (fun h=>?_) (fun h=>?_) <;> (rw[h];conv=>whnf)) | fail)
 all_goals (refine af rfl ?_;show AV.d (D.bool _)=AV.d (D.bool _);congr 2;unfold dM;simp only[*, if_true,if_false,Bool.false_eq_true,Bool.not_true,Bool.not_false,Bool.not_not,Bool.true_or,Bool.or_true,Bool.false_or,Bool.or_false,Bool.and_true,Bool.true_and,Bool.false_and,Bool.and_false])
theorem Ln(n:Int):NQ.Fn cx 190 [.int .i64 n] (.d (.bool (!dM n))) []:=by
 refine av aH mixed Tryz.func190 (by kernel_rfl) rfl (Nat.le_of_ble_eq_true rfl) ?_;conv=>whnf
 (refine⟨_,_,Co n,?_⟩;conv=>whnf)
 exact af rfl rfl
theorem Lo(s:Bs):NQ.Fn cx 187 [.str s] (.d (.bool (pa s))) []:=by
 refine av aH mixed Tryz.func187 (by kernel_rfl) rfl (Nat.le_of_ble_eq_true rfl) ?_;conv=>whnf
 (refine⟨_,_,yq s,?_⟩;conv=>whnf)
 (refine ae (fun h=>?_) (fun h=>?_) <;> (rw[h];conv=>whnf))
 . cases hl:(di s).1 with
   | nil=>rw[hl]at h;simp at h
   | cons x t =>
    refine⟨by decide,ao x,rfl,?_⟩
    conv=>whnf
    refine af rfl ?_;show AV.d (D.bool _)=AV.d (D.bool _)
    congr 2
    unfold pa;rw[hl];simp
 . refine af rfl ?_;show AV.d (D.bool _)=AV.d (D.bool _)
   congr 2
   unfold pa;cases hl:(di s).1 with
   | nil=>rfl
   | cons x t=>rw[hl]at h;simp at h
theorem Hs(l:List Int)(p:Int->Bool)(hn:l.length<=100000)(hf:∀s∈l,NQ.Fn cx 190 [.int .i64 s] (.d (.bool (p s))) []) :
 NQ.Fn cx 124 [.slice 1 (l.map cG), .fn 190 [] []] (.d (.int .i64 (match l.findIdx? p with | some k=>(k:Int) | none=> -1))) []:=by
 refine av aH mixed Tryz.func124 (by kernel_rfl) rfl (Nat.le_of_ble_eq_true rfl) ?_;conv=>whnf
 refine⟨Nat,fun k=>⟨[(0, .d (.slice 1 (l.map cG))),(1, .d (.fn 190 [] [])),(6, .d (.slice 1 (l.map cG))),(7, .d (.int .i64 ((l.map cG).length:Int))),(8, .d (.int .i64 k))],[]⟩,fun k=>k<=l.length/\ ∀j y,j<k->l[j]? =some y->p y=false,fun k=>l.length-k,
  ⟨0,⟨by omega,fun j y h=>by omega⟩,ah.keep ⟨⟨rfl,rfl⟩,⟨rfl,rfl⟩,⟨rfl,rfl⟩,⟨rfl,rfl⟩,⟨rfl,rfl⟩,trivial⟩ trivial⟩,fun k hk=>?_⟩
 obtain⟨hk,hall⟩:=hk
 conv=>whnf
 refine ae (fun h1=>?_) (fun h1=>?_) <;> (rw[h1];conv=>whnf)
 . have hlt:k<l.length:=by simp at h1;omega
   obtain⟨s,hs⟩:∃s,l[k]? =some s:=⟨_,List.getElem?_eq_getElem hlt⟩
   refine⟨Int.natCast_nonneg k,cG s,az hs,?_⟩
   conv=>whnf
   (refine⟨_,_,hf s (List.mem_of_getElem? hs),?_⟩;conv=>whnf)
   refine ae (fun h2=>?_) (fun h2=>?_) <;> (rw[h2];conv=>whnf)
   . refine af rfl ?_;have:l.findIdx? p=some k:=by
      rw[List.findIdx?_eq_some_iff_getElem];obtain⟨g1,g2⟩:=List.getElem?_eq_some_iff.1 hs;refine⟨g1,by rw[g2];exact h2,fun j hj=>?_⟩;have:=hall j (l[j]) hj (List.getElem?_eq_getElem (by omega));rw[this];decide
     rw[this];rfl
   . refine⟨k+1,⟨hlt,fun j y hj hy=>?_⟩,by(show l.length-(k+1)<l.length-k;omega),ah.keep ⟨⟨rfl,rfl⟩,⟨rfl,rfl⟩,⟨rfl,rfl⟩,⟨rfl,rfl⟩,⟨aj (by omega),rfl⟩,trivial⟩ trivial⟩;rcases Nat.lt_succ_iff_lt_or_eq.1 hj with hj | rfl
     . exact hall j y hj hy
     . rw[hs]at hy;cases hy;exact h2
 . obtain rfl:k=l.length:=by simp at h1;omega
   refine af rfl ?_;have:l.findIdx? p=none:=by
    rw[List.findIdx?_eq_none_iff];intro x hx;obtain⟨i,hi⟩:=List.getElem?_of_mem hx;exact hall i x (List.getElem?_eq_some_iff.1 hi).1 hi
   rw[this];rfl
theorem Cp(l:List Int)(hl:l.length<=100000):NQ.Fn cx 61 [.slice 1 (l.map cG), .fn 190 [] []] (.d (.bool (!l.all dM))) []:=by
 refine av aH mixed Tryz.func61 (by kernel_rfl) rfl (Nat.le_of_ble_eq_true rfl) ?_;conv=>whnf
 (refine⟨_,_,Hs l (fun n=> !dM n) hl (fun s _=>Ln s),?_⟩;conv=>whnf)
 refine af rfl ?_;show AV.d (D.bool (decide ((match l.findIdx? (fun n=> !dM n)with | some k=>(k:Int) | none=> -1)>=0)))=_
 congr 2
 cases h:l.findIdx? (fun n=> !dM n)with
 | some k =>
  obtain⟨h1,h2,_⟩:=List.findIdx?_eq_some_iff_getElem.1 h;rw[decide_eq_true (Int.natCast_nonneg k)];have:l.all dM=false:=by
   rw[<- Bool.not_eq_true,List.all_eq_true];intro hall;rw[hall _ (List.getElem_mem h1)]at h2;cases h2
  rw[this];rfl
 | none =>
  have:l.all dM=true:=by
   rw[List.all_eq_true];intro x hx;have:=List.findIdx?_eq_none_iff.1 h x hx;simpa using this
  rw[this];rfl
theorem Ck(s:eZ)(hints:List Int)(hl:hints.length<=100000):NQ.Fn cx 118 [.agg (jm s), .slice 1 (hints.map cG)] (.d (.bool (mg s hints))) []:=by
 refine av aH mixed Tryz.func118 (by kernel_rfl) rfl (Nat.le_of_ble_eq_true rfl) ?_;conv=>whnf
 (refine⟨_,_,uN s,?_⟩;conv=>whnf)
 repeat' (first | (refine ae (fun h=>?_) (fun h=>?_) <;> (rw[h];conv=>whnf)) | fail)
 all_goals first
  | (refine af rfl ?_;show AV.d (D.bool false)=_;(try simp only[List.length_map]at *);unfold mg;simp_all;done)
  | skip
 all_goals first
  | ((refine ⟨_, _, Cp hints hl, ?_⟩; conv => whnf)
     refine af rfl ?_;show AV.d (D.bool _)=AV.d (D.bool _)
     congr 2
     (try simp only[List.length_map]at *)
     unfold mg
     simp_all;done)
  | (refine af rfl ?_;show AV.d (D.bool false)=_;(try simp only[List.length_map]at *);unfold mg;simp_all;omega)
theorem zS(l:List de)(hl:l.length<=100000):NQ.Fn cx 116 [.slice 3 (l.map jW)] (.d (.bool (iR l))) []:=by
 refine av aH mixed Tryz.func116 (by kernel_rfl) rfl (Nat.le_of_ble_eq_true rfl) ?_;conv=>whnf
 rw[List.length_map];refine ae (fun h=>?_) (fun h=>?_) <;> (rw[h];conv=>whnf)
 . refine af rfl ?_;show AV.d (D.bool _)=AV.d (D.bool _)
   congr 2
   unfold iR;simp at h;simp;omega
 have hle:iR l=dh [] l:=by unfold iR;simp at h;simp;omega
 rw[hle];refine⟨Nat,fun k=>⟨[(10, .d (.slice 3 (l.map jW))),(11, .d (.int .i64 ((l.map jW).length:Int))),(12, .d (.int .i64 k)),(3, .omap 9)],[(9, .kmap (xG ((l.take k).map (·.addr))))]⟩,fun k=>k<=l.length/\dh ((l.take k).map (·.addr)) (l.drop k)=dh [] l,fun k=>l.length-k,
  ⟨0,⟨Nat.zero_le _,rfl⟩,ah.keep ⟨⟨rfl,rfl⟩,⟨rfl,rfl⟩,⟨rfl,rfl⟩,⟨rfl,rfl⟩,trivial⟩ ⟨⟨rfl,rfl⟩,trivial⟩⟩,fun k ⟨hk,hinv⟩=>?_⟩
 conv=>whnf
 refine ae (fun h1=>?_) (fun h1=>?_) <;> (rw[h1];conv=>whnf)
 . have hlt:k<l.length:=by simpa using h1
   obtain⟨x,hx⟩:∃x,l[k]? =some x:=⟨_,List.getElem?_eq_getElem hlt⟩
   rw[wM hx]at hinv;refine⟨Int.natCast_nonneg k,jW x,az hx,?_⟩
   conv=>whnf
   repeat' (first | (refine⟨_,_,im x.name,?_⟩;conv=>whnf) | (refine⟨_,_,Lo x.name,?_⟩;conv=>whnf) | (refine⟨_,_,Co x.addr,?_⟩;conv=>whnf) | (refine ae (fun h=>?_) (fun h=>?_) <;> (rw[h];conv=>whnf)) | (refine⟨_,rO x.addr _,?_⟩;cases hc:((l.take k).map (·.addr)).contains x.addr <;> (conv=>whnf)) | fail)
   all_goals first
    | (refine af rfl ?_;show AV.d (D.bool false)=AV.d (D.bool _);rw[<- hinv];simp_all;done)
    | (refine ⟨_, Jk hc, ?_⟩
       conv=>whnf
       refine⟨k+1,⟨hlt,?_⟩,by(show l.length-(k+1)<l.length-k;omega),ah.keep ⟨⟨rfl,rfl⟩,⟨rfl,rfl⟩,⟨aj (by omega),rfl⟩,⟨rfl,rfl⟩,trivial⟩ ⟨⟨?_,rfl⟩,trivial⟩⟩
       . rw[aS hx,List.map_append];rw[<- hinv];simp_all
       . rw[aS hx,List.map_append];rfl)
 . obtain rfl:k=l.length:=by simp at h1;omega
   refine af rfl ?_;rw[<- hinv,List.drop_length];rfl
end Go.Proofs.YtcecidfnchcagaaGreatDoor
namespace NP
open NQ Go
def pmap(l:List ag):List (List D×D):=l.map fun p=>([.int .i64 p.host, .str p.zone.apex], .bool true)
def cL(p x:ag):Bool:=(p.host==x.host)&&(p.zone.apex==x.zone.apex)
theorem sS(p:ag):∀l:List ag,ln [.int .i64, .str] [.int .i64 p.host, .str p.zone.apex] (pmap l)=some (if l.any (cL p)=true then some (.bool true)else none)
 | []=>rfl
 | x::l=>by
  show(match cg [.int .i64, .str] [.d (.int .i64 p.host), .d (.str p.zone.apex)] [.d (.int .i64 x.host), .d (.str x.zone.apex)]with | some true=>_ | some false=>ln _ _ (pmap l) | none=>none)=_
  have:cg [.int .i64, .str] [.d (.int .i64 p.host), .d (.str p.zone.apex)] [.d (.int .i64 x.host), .d (.str x.zone.apex)]=some (cL p x):=by
   show some ((p.host==x.host)&&((p.zone.apex==x.zone.apex)&&true))=_
   rw[Bool.and_true];rfl
  rw[this,List.any_cons];cases h:cL p x with
  | true=>simp
  | false=>simp only[Bool.false_or];exact sS p l
theorem KM{p:ag}{l:List ag}(h:l.any (cL p)=false):tG [.int .i64, .str] [.int .i64 p.host, .str p.zone.apex] (.bool true) (pmap l)=some (pmap (l++[p])):=by
 rw[wQ (by rw[sS,h];rfl)];simp[pmap]
def apx(l:List ag):List (Bs×D):=l.foldl (fun m p=>bM p.zone.apex (.bool true) m) []
theorem Jo(l:List ag)(p:ag):apx (l++[p])=bM p.zone.apex (.bool true) (apx l):=by unfold apx;rw[List.foldl_append];rfl
def cJ(n:Nat):List ag->List ag->Bool
 | _,[]=>true
 | seen,p::t=> !(decide (p.host<0)||decide (p.host>=(n:Int))||seen.any (cL p)|| !aV p.zone)&&cJ n (seen++[p]) t
def gX(w:aQ):Bool:=decide ((w.zones.length:Int)<=4000)&&cJ w.hosts.length [] w.zones&&decide (((apx w.zones).length:Int)<=500)
theorem uk{n:Nat}{l:List ag}{k:Nat}{p:ag}(hp:l[k]? =some p)(seen:List ag):cJ n seen (l.drop k)=(!(decide (p.host<0)||decide (p.host>=(n:Int))||seen.any (cL p)|| !aV p.zone)&&cJ n (seen++[p]) (l.drop (k+1))):=by
 rw[drop_cons hp];rfl
def aX(w:aQ):Bool:=iR w.hosts&&gX w&&mg w.anchor w.hints
end NP
namespace Go.Proofs.YtcecidfnchcagaaGreatDoor
open NQ Go NP Go.RowKit
theorem yn(w:aQ)(hl:w.zones.length<=100000):NQ.Fn cx 117 [.agg (bp w)] (.d (.bool (gX w))) []:=by
 refine av aH mixed Tryz.func117 (by kernel_rfl) rfl (Nat.le_of_ble_eq_true rfl) ?_;conv=>whnf
 rw[List.length_map];refine ae (fun h=>?_) (fun h=>?_) <;> (rw[h];conv=>whnf)
 . refine af rfl ?_;show AV.d (D.bool _)=AV.d (D.bool _)
   congr 2
   unfold gX;simp at h;simp;omega
 have hle:gX w=(cJ w.hosts.length [] w.zones&&decide (((apx w.zones).length:Int)<=500)):=by
  have:decide ((w.zones.length:Int)<=4000)=true:=by simp at h ⊢;omega
  unfold gX;rw[this,Bool.true_and]
 rw[hle];refine⟨Nat,fun k=>⟨[(1, .ptr 1 0),(15, .d (.slice 3 (w.zones.map bx))),(16, .d (.int .i64 ((w.zones.map bx).length:Int))),(17, .d (.int .i64 k)),(3, .omap 12),(4, .omap 13)],[(1, .box ((bp w).map .d)),(12, .kmap (pmap (w.zones.take k))),(13, .smap (apx (w.zones.take k)))]⟩,fun k=>k<=w.zones.length/\cJ w.hosts.length (w.zones.take k) (w.zones.drop k)=cJ w.hosts.length [] w.zones,fun k=>w.zones.length-k,
  ⟨0,⟨Nat.zero_le _,rfl⟩,ah.keep ⟨⟨rfl,rfl⟩,⟨rfl,rfl⟩,⟨rfl,rfl⟩,⟨rfl,rfl⟩,⟨rfl,rfl⟩,⟨rfl,rfl⟩,trivial⟩ ⟨⟨rfl,rfl⟩,⟨rfl,rfl⟩,⟨rfl,rfl⟩,trivial⟩⟩,fun k ⟨hk,hinv⟩=>?_⟩
 conv=>whnf
 refine ae (fun h1=>?_) (fun h1=>?_) <;> (rw[h1];conv=>whnf)
 . have hlt:k<w.zones.length:=by simpa using h1
   obtain⟨x,hx⟩:∃x,w.zones[k]? =some x:=⟨_,List.getElem?_eq_getElem hlt⟩
   rw[uk hx]at hinv;refine⟨Int.natCast_nonneg k,bx x,az hx,?_⟩
   conv=>whnf
   repeat' (first | (refine⟨_,_,tw x.zone,?_⟩;conv=>whnf) | (refine ae (fun h=>?_) (fun h=>?_) <;> (rw[h];conv=>whnf)) | (refine⟨_,sS x _,?_⟩;cases hc:(w.zones.take k).any (cL x) <;> (conv=>whnf)) | fail)
   all_goals first
    | (refine af rfl ?_;show AV.d (D.bool false)=AV.d (D.bool _);rw[<- hinv];clear hinv hle;(try simp only[List.length_map]at *);simp only[*, if_true,if_false,Bool.false_eq_true,Bool.not_true,Bool.not_false,Bool.not_not,Bool.true_or,Bool.or_true,Bool.false_or,Bool.or_false,Bool.and_true,Bool.true_and,Bool.false_and,Bool.and_false];done)
    | (refine ⟨_, KM hc, ?_⟩
       conv=>whnf
       refine⟨k+1,⟨hlt,?_⟩,by(show w.zones.length-(k+1)<w.zones.length-k;omega),ah.keep ⟨⟨rfl,rfl⟩,⟨rfl,rfl⟩,⟨rfl,rfl⟩,⟨aj (by omega),rfl⟩,⟨rfl,rfl⟩,⟨rfl,rfl⟩,trivial⟩ ⟨⟨rfl,rfl⟩,⟨?_,rfl⟩,⟨?_,rfl⟩,trivial⟩⟩
       . rw[aS hx];rw[<- hinv];clear hinv hle;(try simp only[List.length_map]at *);simp only[*, if_true,if_false,Bool.false_eq_true,Bool.not_true,Bool.not_false,Bool.not_not,Bool.true_or,Bool.or_true,Bool.false_or,Bool.or_false,Bool.and_true,Bool.true_and,Bool.false_and,Bool.and_false]
       . rw[aS hx];rfl
       . rw[aS hx,Jo];rfl)
 . obtain rfl:k=w.zones.length:=by simp at h1;omega
   refine af rfl ?_;rw[<- hinv,List.drop_length,List.take_length];rfl
theorem zt(w:aQ)(h1:w.hosts.length<=100000)(h2:w.zones.length<=100000)(h3:w.hints.length<=100000):NQ.Fn cx 54 [.agg (bp w)] (.d (.bool (aX w))) []:=by
 refine av aH mixed Tryz.func54 (by kernel_rfl) rfl (Nat.le_of_ble_eq_true rfl) ?_;conv=>whnf
 (refine⟨_,_,zS w.hosts h1,?_⟩;conv=>whnf)
 refine ae (fun h=>?_) (fun h=>?_) <;> (rw[h];conv=>whnf)
 . (refine⟨_,_,yn w h2,?_⟩;conv=>whnf)
   refine ae (fun h' =>?_) (fun h' =>?_) <;> (rw[h'];conv=>whnf)
   . (refine⟨_,_,Ck w.anchor w.hints h3,?_⟩;conv=>whnf)
     refine af rfl ?_;unfold aX;rw[h,h'];rfl
   . refine af rfl ?_;unfold aX;rw[h,h'];rfl
 . refine af rfl ?_;unfold aX;rw[h];rfl
end Go.Proofs.YtcecidfnchcagaaGreatDoor
namespace NP
open NQ Go
def cF(a:Bs):List (Bs×Nat)->Option Nat
 | []=>none
 | (b,i)::t=>if a=b then some i else cF a t
def du(a:Bs)(i:Nat):List (Bs×Nat)->List (Bs×Nat)
 | []=>[(a,i)]
 | (b,j)::t=>if a=b then(b,i)::t else(b,j)::du a i t
def nU(m:List (Bs×Nat)):List (Bs×D):=m.map fun p=>(p.1, .int .i64 (p.2:Int))
theorem Bj(a:Bs):∀m,bJ a (nU m)=(cF a m).map fun i=>D.int .i64 (i:Int)
 | []=>rfl
 | (b,i)::t=>by
  show(if a=b then _ else bJ a (nU t))=_
  unfold cF;split
  . rfl
  . exact Bj a t
theorem xT(a:Bs)(i:Nat):∀m,bM a (.int .i64 (i:Int)) (nU m)=nU (du a i m)
 | []=>rfl
 | (b,j)::t=>by
  show(if a=b then _ else _::bM a _ (nU t))=_
  unfold du;split
  . rfl
  . rw[xT a i t];rfl
theorem D5(a:Bs):∀m,fj (.str a) ((nU m).map fy)=some ((cF a m).map fun i=>D.int .i64 (i:Int))
 | []=>rfl
 | (b,i)::t=>by
  show(match eH (.str a) [.tuple [.str b]]with | some true=>_ | some false=>fj (.str a) ((nU t).map fy) | none=>none)=_
  have:eH (.str a) [.tuple [.str b]]=some (a==b):=rfl;rw[this];unfold cF;by_cases h:a=b
  . subst h;simp
  . have:(a==b)=false:=by simp[h]
    rw[this,if_neg h];exact D5 a t
theorem mO(a b:Bs)(i:Nat):∀m,cF b (du a i m)=if a=b then some i else cF b m
 | []=>by
  simp only[du,cF];by_cases h:a=b
  . rw[if_pos h.symm,if_pos h]
  . rw[if_neg (Ne.symm h),if_neg h]
 | (c,j)::t=>by
  unfold du;by_cases hc:a=c
  . rw[if_pos hc];subst hc;unfold cF;by_cases h:b=a
    . rw[if_pos h,if_pos h.symm]
    . rw[if_neg h,if_neg h,if_neg (Ne.symm h)]
  . rw[if_neg hc];unfold cF;by_cases h:b=c
    . rw[if_pos h,if_pos h,if_neg (fun e=>hc (e.trans h))]
    . rw[if_neg h,if_neg h];exact mO a b i t
def cC(p q:ag):Bool:=decide ((cP p.zone).1>(cP q.zone).1)||(decide ((cP p.zone).1=(cP q.zone).1)&&decide (p.host<q.host))
def cT(zs:List ag)(m:List (Bs×Nat))(p:ag):Bool:=match cF p.zone.apex m with
 | none=>true
 | some j=>(match zs[j]? with | some q=>cC p q | none=>false)
def fk(zs:List ag):Nat->List ag->List (Bs×Nat)->List (Bs×Nat)
 | _,[],m=>m
 | i,p::t,m=>fk zs (i+1) t (if cT zs m p=true then du p.zone.apex i m else m)
def bC(zs:List ag):List (Bs×Nat):=fk zs 0 zs []
theorem zo{zs l:List ag}{k:Nat}{p:ag}(hp:l[k]? =some p)(m:List (Bs×Nat)):fk zs k (l.drop k) m=fk zs (k+1) (l.drop (k+1)) (if cT zs m p=true then du p.zone.apex k m else m):=by
 rw[drop_cons hp];rfl
def fX(zs:List ag)(m:List (Bs×Nat)):Prop:= ∀a j,cF a m=some j-> ∃p,zs[j]? =some p/\p.zone.apex=a
theorem fX.put{zs:List ag}{m:List (Bs×Nat)}(h:fX zs m){i:Nat}{p:ag}(hp:zs[i]? =some p):fX zs (du p.zone.apex i m):=by
 intro a j hj;rw[mO]at hj;split at hj
 . cases hj;exact⟨p,hp,by assumption⟩
 . exact h a j hj
theorem fX.go{zs:List ag}:∀(l:List ag) (i:Nat) (m:List (Bs×Nat)),(∀j,l[j]? =zs[i+j]?)->fX zs m->fX zs (fk zs i l m)
 | [],i,m,_,h=>h
 | p::t,i,m,hl,h=>by
  unfold fk;refine fX.go t (i+1) _ (fun j=>by have:=hl (j+1);simp at this;rw[this];congr 1;omega) ?_;split
  . exact h.put (by have:=hl 0;simpa using this.symm)
  . exact h
theorem o6(zs:List ag):fX zs (bC zs):=fX.go zs 0 [] (fun j=>by rw[Nat.zero_add]) (fun a j h=>by cases h)
def Aa(w:aQ)(m:List (Bs×Nat)):List D:=bp w++[.kmap ((nU m).map fy)]
def fR(zs:List ag)(m:List (Bs×Nat))(q:aI):Nat->Bs->Ans×Bool
 | 0,_=>(jk,false)
 | f+1,a=>match cF a m with
  | none=>(jk,false)
  | some i=>(match zs[i]? with
   | some p=>if ((aY p.zone q).1.kind != 4)=true then((aY p.zone q).1,true)else fR zs m q f (aY p.zone q).1.cut
   | none=>(jk,false))
def bU(zs:List ag):Prop:= ∀p∈zs,fY p.zone=true/\aV p.zone=true
theorem eP{z:aA}{q:aI}(u:Use z q)(hk:((aY z q).1.kind != 4)=false):ax q.name (aY z q).1.cut=true/\(back z.apex).length<(back (aY z q).1.cut).length/\ai (aY z q).1.cut=true/\(aY z q).1.cut∈bK z.apex z.sets:=by
 cases hr:dF (vw z q)with
 | false =>
  have:=(u.Eh hr).1;simp only[bne,this]at hk;cases hk
 | true =>
  obtain⟨s0,R,h1,h2,h3,_⟩:=u.LD hr;rw[h3];have hne:bA z q.name ≠ []:=by intro e;rw[v7,e]at hr;cases hr
  have hcut:bA z q.name∈bK z.apex z.sets/\ax q.name (bA z q.name)=true:=by
   unfold bA at hne ⊢;cases hf:(bK z.apex z.sets).find? fun c=>ax q.name c with
   | none=>rw[hf]at hne;exact absurd rfl hne
   | some c=>exact⟨List.mem_of_find?_eq_some hf,by have:=List.find?_some hf;simpa using this⟩
  obtain⟨hc,hu⟩:=hcut;have ho:=u.ord;obtain⟨s,hs,hi,he⟩:=(jv z.apex _ z.sets).1 hc;have hua:=ho.under s hs;have hsv:=ho.name s hs;unfold bd at hua;rw[if_pos ⟨hsv,ho.apex⟩,he]at hua;refine⟨hu,?_,he ▸ hsv,hc⟩;have hpre:=(cZ _ _).1 hua;have hle:=hpre.length_le;rcases Nat.lt_or_ge (back z.apex).length (back (bA z q.name)).length with h | h
  . exact h
  . have e:back z.apex=back (bA z q.name):=hpre.eq_of_length (by omega);have:bA z q.name=z.apex:=nA hua ((cZ _ _).2 (by rw[e];exact List.prefix_rfl));unfold cO at hi;rw[he,this]at hi;simp at hi
end NP
namespace Go.Proofs.YtcecidfnchcagaaGreatDoor
open NQ Go NP Go.RowKit
theorem FO(w:aQ)(hl:w.zones.length<=100000):NQ.Fn cx 111 [.agg (bp w)] (.agg ((Aa w (bC w.zones)).map .d)) []:=by
 refine cw (fun | 9=>[9] | _=>[]) aH mixed Tryz.func111 (by kernel_rfl) rfl (Nat.le_of_ble_eq_true rfl) ?_
 conv=>whnf
 refine ⟨Nat × List (Bs × Nat), fun x => ⟨[(2, .ptr 2 0), (3, .ptr 3 0), (13, .d (.slice 3 (w.zones.map bx))), (14, .d (.int .i64 ((w.zones.map bx).length : Int))), (15, .d (.int .i64 x.1))],
     [(2, .box [.nil 3, .nil 3, .d (.str []), .d (.int .i64 0), .d (.int .i64 0), .nil 3, .nil 1, .d .nmap]),(3, .box ((bp w).map .d++[.omap 9])),(9, .smap (nU x.2))]⟩,
  fun x=>x.1<=w.zones.length/\fX w.zones x.2/\fk w.zones x.1 (w.zones.drop x.1) x.2=bC w.zones,fun x=>w.zones.length-x.1,
  ⟨(0,[]),⟨Nat.zero_le _,(fun a j h=>by cases h),rfl⟩,ah.keep ⟨⟨rfl,rfl⟩,⟨rfl,rfl⟩,⟨rfl,rfl⟩,⟨rfl,rfl⟩,⟨rfl,rfl⟩,trivial⟩ ⟨⟨rfl,rfl⟩,⟨rfl,rfl⟩,⟨rfl,rfl⟩,trivial⟩⟩,fun⟨k,m⟩ ⟨hk,hok,hinv⟩=>?_⟩
 dsimp only at hk hok hinv ⊢
 conv=>whnf
 refine ae (fun h1=>?_) (fun h1=>?_) <;> (rw[h1];conv=>whnf)
 . have hlt:k<w.zones.length:=by simpa using h1
   obtain⟨x,hx⟩:∃x,w.zones[k]? =some x:=⟨_,List.getElem?_eq_getElem hlt⟩
   rw[zo hx]at hinv;refine⟨Int.natCast_nonneg k,bx x,az hx,?_⟩
   conv=>whnf
   rw[Bj];have again:∀m',(m' =if cT w.zones m x=true then du x.zone.apex k m else m)->(k+1<=w.zones.length/\fX w.zones m' /\fk w.zones (k+1) (w.zones.drop (k+1)) m' =bC w.zones):=fun m' e=>by
    refine⟨hlt,?_,by rw[e];exact hinv⟩;rw[e];split
    . exact hok.put hx
    . exact hok
   cases hf:cF x.zone.apex m with
   | none =>
    conv=>whnf
    (refine⟨(by kernel_rfl:aT _ _=true),?_⟩;conv=>whnf)
    have ht:cT w.zones m x=true:=by unfold cT;rw[hf]
    refine⟨(k+1,du x.zone.apex k m),again _ (by rw[if_pos ht]),by(show w.zones.length-(k+1)<w.zones.length-k;omega),ah.keep ⟨⟨rfl,rfl⟩,⟨rfl,rfl⟩,⟨rfl,rfl⟩,⟨rfl,rfl⟩,⟨aj (by omega),rfl⟩,trivial⟩ ⟨⟨rfl,rfl⟩,⟨rfl,rfl⟩,⟨?_,rfl⟩,trivial⟩⟩;show some (Blk.smap (bM x.zone.apex (.int .i64 (k:Int)) (nU m)))=_
    rw[xT]
   | some j =>
    conv=>whnf
    (refine⟨(by kernel_rfl:aT _ _=true),?_⟩;conv=>whnf)
    obtain⟨p,hp,hpa⟩:=hok _ j hf;refine⟨Int.natCast_nonneg j,bx p,az hp,?_⟩
    conv=>whnf
    (refine⟨_,_,Kz x p,?_⟩;conv=>whnf)
    have ht:cT w.zones m x=cC x p:=by unfold cT;rw[hf];dsimp only;rw[hp]
    refine ae (fun h2=>?_) (fun h2=>?_) <;> (rw[h2];conv=>whnf)
    . have ht:cT w.zones m x=true:=ht.trans h2;refine⟨(k+1,du x.zone.apex k m),again _ (by rw[if_pos ht]),by(show w.zones.length-(k+1)<w.zones.length-k;omega),ah.keep ⟨⟨rfl,rfl⟩,⟨rfl,rfl⟩,⟨rfl,rfl⟩,⟨rfl,rfl⟩,⟨aj (by omega),rfl⟩,trivial⟩ ⟨⟨rfl,rfl⟩,⟨rfl,rfl⟩,⟨?_,rfl⟩,trivial⟩⟩;show some (Blk.smap (bM x.zone.apex (.int .i64 (k:Int)) (nU m)))=_
      rw[xT]
    . have ht:cT w.zones m x=false:=ht.trans h2;exact⟨(k+1,m),again _ (by rw[if_neg (by rw[ht];simp)]),by(show w.zones.length-(k+1)<w.zones.length-k;omega),ah.keep ⟨⟨rfl,rfl⟩,⟨rfl,rfl⟩,⟨rfl,rfl⟩,⟨rfl,rfl⟩,⟨aj (by omega),rfl⟩,trivial⟩ ⟨⟨rfl,rfl⟩,⟨rfl,rfl⟩,⟨rfl,rfl⟩,trivial⟩⟩
 . obtain rfl:k=w.zones.length:=by simp at h1;omega
   rw[List.drop_length]at hinv;obtain rfl:m=bC w.zones:=hinv;exact af rfl rfl
end Go.Proofs.YtcecidfnchcagaaGreatDoor
namespace NP
open NQ Go
theorem gQ(a:Bs):ax a [46]=true:=by
 rw[cZ];show([]:List Bs) <+: _
 exact List.nil_prefix
def bD(zs:List ag)(q:aI):Ans×Bool:=fR zs (bC zs) q ((back q.name).length+2) [46]
theorem Cg{zs:List ag}{q:aI}(hg:bU zs)(hq:bu q=true){m:List (Bs×Nat)}(hm:fX zs m){a:Bs}(hu:ax q.name a=true){f:Nat}(hf:(back q.name).length+1<=f+(back a).length){i:Nat}{p:ag}(hi:cF a m=some i)(hp:zs[i]? =some p)
 (hk:((aY p.zone q).1.kind != 4)=false):Use p.zone q/\ax q.name (aY p.zone q).1.cut=true/\(back a).length<(back (aY p.zone q).1.cut).length/\1<=f:=by
 obtain⟨p',hp',ha⟩:=hm a i hi;rw[hp]at hp';cases hp';obtain⟨g1,g2⟩:=hg p (List.mem_of_getElem? hp);have u:Use p.zone q:=⟨g1,g2,hq,by rw[ha];exact hu⟩
 obtain⟨r1,r2,_⟩:=eP u hk;rw[ha]at r2;refine⟨u,r1,r2,?_⟩;have:=((cZ _ _).1 r1).length_le;omega
end NP
namespace Go.Proofs.YtcecidfnchcagaaGreatDoor
open NQ Go NP Go.RowKit
theorem zQ(w:aQ)(q:aI)(hg:bU w.zones)(hq:bu q=true):NQ.Fn cx 112 [.agg (Aa w (bC w.zones)), .agg (bX q)] (.tuple [.agg ((dY (bD w.zones q).1).map .d), .d (.bool (bD w.zones q).2)]) []:=by
 refine cw (fun _=>[]) aH mixed Tryz.func112 (by kernel_rfl) rfl (Nat.le_of_ble_eq_true rfl) ?_
 conv=>whnf
 refine⟨Nat×Bs,fun x=>⟨[(2, .ptr 2 0),(3, .ptr 3 0),(4, .ptr 4 0),(6, .d (.str x.2))],[(2, .box ((Aa w (bC w.zones)).map .d)),(3, .box ((bX q).map .d)),(4, .box [.d (.int .i64 0), .nil 5, .d (.str [])])]⟩,
  fun x=>ax q.name x.2=true/\(back q.name).length+1<=x.1+(back x.2).length/\fR w.zones (bC w.zones) q (x.1+1) x.2=bD w.zones q,fun x=>x.1,
  ⟨((back q.name).length+1,[46]),⟨gQ q.name,by omega,rfl⟩,ah.keep ⟨⟨rfl,rfl⟩,⟨rfl,rfl⟩,⟨rfl,rfl⟩,⟨rfl,rfl⟩,trivial⟩ ⟨⟨rfl,rfl⟩,⟨rfl,rfl⟩,⟨rfl,rfl⟩,trivial⟩⟩,fun⟨f,a⟩ ⟨hu,hf,hinv⟩=>?_⟩
 dsimp only at hu hf hinv ⊢
 conv=>whnf
 refine⟨_,D5 a (bC w.zones),?_⟩;unfold fR at hinv;cases hfi:cF a (bC w.zones)with
 | none =>
  rw[hfi]at hinv
  conv=>whnf
  refine af rfl ?_;rw[<- hinv];rfl
 | some i =>
  rw[hfi]at hinv
  conv=>whnf
  try (refine⟨(by kernel_rfl:aT _ _=true),?_⟩;conv=>whnf)
  obtain⟨p,hp,hpa⟩:=o6 w.zones a i hfi;have hg' :=hg p (List.mem_of_getElem? hp);refine⟨Int.natCast_nonneg i,bx p,az hp,?_⟩
  conv=>whnf
  (refine⟨_,_,GJ p.zone q hg'.1,?_⟩;conv=>whnf)
  dsimp only at hinv;rw[hp]at hinv;dsimp only at hinv;refine ae (fun h2=>?_) (fun h2=>?_) <;> (rw[h2];conv=>whnf)
  . have h2' :((aY p.zone q).1.kind != 4)=true:=h2;rw[if_pos h2']at hinv;refine af rfl ?_;rw[<- hinv];rfl
  . have h2' :((aY p.zone q).1.kind != 4)=false:=h2;rw[if_neg (by rw[h2'];simp)]at hinv;obtain⟨u,r1,r2,r3⟩:=Cg hg hq (o6 w.zones) hu hf hfi hp h2';obtain⟨f,rfl⟩:∃g,f=g+1:=⟨f-1,by omega⟩
    exact⟨(f,(aY p.zone q).1.cut),⟨r1,by dsimp only;omega,hinv⟩,by(show f<f+1;omega),ah.keep ⟨⟨rfl,rfl⟩,⟨rfl,rfl⟩,⟨rfl,rfl⟩,⟨rfl,rfl⟩,trivial⟩ ⟨⟨rfl,rfl⟩,⟨rfl,rfl⟩,⟨rfl,rfl⟩,trivial⟩⟩
end Go.Proofs.YtcecidfnchcagaaGreatDoor
namespace NP
open NQ Go
theorem s9{zs:List ag}{q:aI}(hg:bU zs)(hq:bu q=true){m:List (Bs×Nat)}(hm:fX zs m):∀(f:Nat) (a:Bs),ax q.name a=true-> ∀x,fR zs m q f a=(x,true)-> ∃p∈zs,Use p.zone q/\x=(aY p.zone q).1/\(x.kind != 4)=true
 | 0,a,hu,x,h=>by cases h
 | f+1,a,hu,x,h=>by
  unfold fR at h;cases hi:cF a m with
  | none=>rw[hi]at h;cases h
  | some i =>
   rw[hi]at h;obtain⟨p,hp,ha⟩:=hm a i hi;dsimp only at h;rw[hp]at h;dsimp only at h;have hmem:=List.mem_of_getElem? hp;obtain⟨g1,g2⟩:=hg p hmem;have u:Use p.zone q:=⟨g1,g2,hq,by rw[ha];exact hu⟩
   cases hk:((aY p.zone q).1.kind != 4)with
   | true=>rw[hk,if_pos rfl]at h;cases h;exact⟨p,hmem,u,rfl,hk⟩
   | false =>
    rw[hk,if_neg (by simp)]at h;exact s9 hg hq hm f _ (eP u hk).1 x h
theorem sY{zs:List ag}{q:aI}(hg:bU zs)(hq:bu q=true){x:Ans}(h:bD zs q=(x,true)):∃p∈zs,Use p.zone q/\x=(aY p.zone q).1/\(x.kind != 4)=true :=
 s9 hg hq (o6 zs) _ _ (gQ q.name) x h
theorem GG{s:eZ}(h:dt s=true)(ht:s.type=3):∃d,s.data=[d]/\ai d.text=true:=by
 unfold dt at h;simp only[Bool.and_eq_true,Bool.not_eq_true',Bool.or_eq_false_iff,Bool.not_eq_false']at h;obtain⟨⟨⟨⟨_,_⟩,hw⟩,hs,_⟩,hall⟩:=h;rw[ht]at hs hall;have h1:s.data.length=1:=by
  have:(eB 3).single=true:=rfl;rw[this,Bool.true_and]at hs;have:(s.data.length:Int)=1:=by simpa using hs
  omega
 obtain⟨d,hd⟩:∃d,s.data=[d]:=List.length_eq_one_iff.1 h1;refine⟨d,hd,?_⟩;rw[hd]at hall;have:=List.all_eq_true.1 hall 0 (by simp);rw[vn (d:=d) (p:=d) rfl rfl]at this;unfold mB at this;simp only[Bool.not_eq_true',Bool.or_eq_false_iff,Bool.not_eq_false']at this;have hv:=this.1;unfold eK at hv;simp only[Bool.and_eq_true]at hv;have ht:=hv.2;have e:(eB 3).text=1:=rfl;rw[e]at ht;simp only[jO,if_true,Bool.and_eq_true]at ht;exact ht.1
theorem Use.GC{z:aA}{q:aI}(u:Use z q)(hk:(aY z q).1.kind=3):∃s R d,(aY z q).1.sets=s::R/\s∈z.sets/\s.set.type=3/\s.set.data=[d]/\ai d.text=true:=by
 have key:∀(q' :aI) (rest:List Int),q'.type=3->(decide (atI z.sets q' >=0))=true->(aY z q).1.sets=bW z.sets [] (atI z.sets q' ::rest)-> ∃s R d,(aY z q).1.sets=s::R/\s∈z.sets/\s.set.type=3/\s.set.data=[d]/\ai d.text=true:=fun q' rest ht hat hs=>by
  have hh:cv z.sets q' =true:=by
   have:=lO z.sets q';cases hc:cv z.sets q' with
   | true=>rfl
   | false=>rw[hc]at this;simp at this hat;omega
  obtain⟨k,s,h1,h2,h3⟩:=qy hh;have hm:=List.mem_of_getElem? h2;have ht3:s.set.type=3:=by have:=congrArg Prod.snd h3;exact(show s.set.type=q'.type from this).trans ht
  obtain⟨d,hd,hv⟩:=GG (u.ord.set s hm) ht3;refine⟨s,bW z.sets ([]++[atI z.sets q']) rest,d,?_,hm,ht3,hd,hv⟩;rw[hs,bW,if_neg (by rw[h1];simp),h1];simp[h2]
 rw[u.ans]at hk key ⊢;dsimp only at hk key ⊢;unfold eM at hk key ⊢;split at hk
 . exfalso;rename_i hr;unfold jL at hk;rw[if_pos hr]at hk;simp at hk
 rename_i hr;rw[if_neg hr]at key ⊢;split at hk
 . simp[wy]at hk
 rename_i hd;rw[if_neg hd]at key ⊢;split at hk
 . rename_i ha;rw[if_pos ha]at key ⊢;have:decide (atI z.sets ⟨q.name,3⟩>=0)=true:=by unfold pI at ha;simp only[Bool.and_eq_true]at ha;exact ha.1
   exact key ⟨q.name,3⟩ [] rfl this rfl
 rename_i ha;rw[if_neg ha]at key ⊢;split at hk
 . exfalso;rename_i hx;unfold kS at hk;rw[if_pos hx]at hk;simp at hk
 rename_i hx;rw[if_neg hx]at key ⊢;split at hk
 . simp[xB]at hk
 rename_i hw;rw[if_neg hw]at key ⊢;split at hk
 . rename_i hwa;rw[if_pos hwa]at key ⊢;have hs:(bB (vw z q)).sets=z.sets:=uI _;have:decide (atI z.sets ⟨(bB (vw z q)).cM,3⟩>=0)=true:=by unfold kf at hwa;simp only[Bool.and_eq_true]at hwa;rw[hs]at hwa;exact hwa.1
   refine key ⟨(bB (vw z q)).cM,3⟩ [iw (bB (vw z q)).sets (bB (vw z q)).q.name] rfl this ?_;unfold lH;rw[hs]
 rename_i hwa;split at hk
 . exfalso;unfold kY at hk;(try split at hk) <;> simp at hk
 . exfalso;unfold nI at hk;(try split at hk) <;> simp at hk
def jf(zs:List ag):Nat->aI->List Signed->Ans×Int
 | 0,_,_=>(jk,33)
 | f+1,q,kept=>if (!(bD zs q).2)=true then(jk,34)else if ((bD zs q).1.kind != 3)=true then(⟨(bD zs q).1.kind,kept++(bD zs q).1.sets,(bD zs q).1.cut⟩,0)
  else match (bD zs q).1.sets.head? with
   | some s=>(match s.set.data.head? with | some d=>jf zs f ⟨d.text,q.type⟩ (kept++[s]) | none=>(jk,0))
   | none=>(jk,0)
def kx(w:aQ)(q:aI):Ans×Int:=if (aX w&&bu q)=false then(jk,1)else jf w.zones 9 q []
theorem rV{n:Nat}:∀(l seen:List ag),cJ n seen l=true-> ∀p∈l,aV p.zone=true/\0<=p.host/\p.host<(n:Int)
 | [],_,_,p,hp=>by cases hp
 | x::t,seen,h,p,hp=>by
  unfold cJ at h;simp only[Bool.and_eq_true,Bool.not_eq_true',Bool.or_eq_false_iff,Bool.not_eq_false',decide_eq_false_iff_not]at h;rcases List.mem_cons.1 hp with rfl | hp
  . exact⟨h.1.2,by omega,by omega⟩
  . exact rV t _ h.2 p hp
theorem ot{w:aQ}(h:aX w=true):∀p∈w.zones,aV p.zone=true/\0<=p.host/\p.host<(w.hosts.length:Int):=by
 unfold aX gX at h;simp only[Bool.and_eq_true]at h;exact rV _ _ h.1.2.1.2
structure jr(w:aQ):Prop where
 hosts:w.hosts.length<=1000
 zones:w.zones.length<=1000
 hints:w.hints.length<=1000
 few:∀p∈w.zones,fY p.zone=true
end NP
namespace Go.Proofs.YtcecidfnchcagaaGreatDoor
open NQ Go NP Go.RowKit
set_option maxHeartbeats 1000000 in
theorem Lf(w:aQ)(q0:aI)(hF:jr w):NQ.Fn cx 50 [.agg (bp w), .agg (bX q0)] (.tuple [.agg ((dY (kx w q0).1).map .d), .d (.int .i64 (kx w q0).2)]) []:=by
 refine cw (fun _=>[]) aH mixed Tryz.func50 (by kernel_rfl) rfl (Nat.le_of_ble_eq_true rfl) ?_
 conv=>whnf
 (refine⟨_,_,zt w (by have:=hF.hosts;omega) (by have:=hF.zones;omega) (by have:=hF.hints;omega),?_⟩;conv=>whnf)
 have bad:∀(b:Bool),(aX w&&bu q0)=false->kx w q0=(jk,1):=fun _ h=>by unfold kx;rw[if_pos h]
 repeat' (first | (refine⟨_,_,I8 q0,?_⟩;conv=>whnf) | (refine ae (fun h=>?_) (fun h=>?_) <;> (rw[h];conv=>whnf)) | fail)
 . refine af rfl ?_;rw[bad true (by simp_all)];rfl
 . refine af rfl ?_;rw[bad true (by simp_all)];rfl
 have hval:aX w=true:=by simpa using ‹(!aX w)=false›
 have hq0:bu q0=true:=by simpa using ‹(!bu q0)=false›
 have hg:bU w.zones:=fun p hp=>⟨hF.few p hp,(ot hval p hp).1⟩
 have htr:kx w q0=jf w.zones 9 q0 []:=by unfold kx;rw[if_neg (by rw[hval,hq0];simp)]
 (refine⟨_,_,FO w (by have:=hF.zones;omega),?_⟩;conv=>whnf)
 refine⟨aI×List Signed,fun x=>⟨[(2, .ptr 2 0),(3, .ptr 3 0),(4, .ptr 4 0),(6, .ptr 6 0),(7, .own 7)],[(2, .box ((bp w).map .d)),(3, .box ((bX x.1).map .d)),(4, .box [.d (.int .i64 0), .nil 5, .d (.str [])]),(6, .box ((Aa w (bC w.zones)).map .d)),(7, .row 79 5 (x.2.map ay))]⟩,
  fun x=>bu x.1=true/\x.2.length<=8/\jf w.zones (9-x.2.length) x.1 x.2=kx w q0,fun x=>9-x.2.length,
  ⟨(q0,[]),⟨hq0,by simp,by rw[htr];rfl⟩,(ah.j6 7 7 5 79 5 rfl rfl (by decide)).trans (ah.keep ⟨⟨rfl,rfl⟩,⟨rfl,rfl⟩,⟨rfl,rfl⟩,⟨rfl,rfl⟩,⟨rfl,rfl⟩,trivial⟩ ⟨⟨rfl,rfl⟩,⟨rfl,rfl⟩,⟨rfl,rfl⟩,⟨rfl,rfl⟩,⟨rfl,rfl⟩,trivial⟩)⟩,fun⟨q,kept⟩ ⟨hq,hkl,hinv⟩=>?_⟩
 dsimp only at hq hkl hinv ⊢
 conv=>whnf
 obtain⟨f,hf⟩:∃f,9-kept.length=f+1:=⟨8-kept.length,by omega⟩
 rw[hf]at hinv;unfold jf at hinv
 (refine⟨_,_,zQ w q hg hq,?_⟩;conv=>whnf)
 refine ae (fun h1=>?_) (fun h1=>?_) <;> (rw[h1];conv=>whnf)
 . rw[if_pos h1]at hinv;refine af rfl ?_;rw[<- hinv];rfl
 rw[if_neg (by rw[h1];simp)]at hinv;have hok:(bD w.zones q).2=true:=by simpa using h1
 obtain⟨p,hpm,u,hpa,hp4⟩:=sY hg hq (x:=(bD w.zones q).1) (by rw[<- hok]);have hal:(bD w.zones q).1.sets.length<=1000:=by rw[hpa];exact DK u.few q
 refine ae (fun h2=>?_) (fun h2=>?_) <;> (rw[h2];conv=>whnf)
 . rw[if_pos h2]at hinv;refine⟨by(show(kept.map ay).length+((bD w.zones q).1.sets.map ay).length<=_);simp;omega,by(show((kept.map ay).length+((bD w.zones q).1.sets.map ay).length)*80<=_);simp;omega,?_⟩
   conv=>whnf
   refine af rfl ?_;rw[<- hinv];show AV.tuple _=AV.tuple _
   simp[dY];exact⟨rfl,rfl⟩
 rw[if_neg (by rw[h2];simp)]at hinv;have hk3:(aY p.zone q).1.kind=3:=by rw[<- hpa];simpa using h2
 obtain⟨s,R,d,hs,hsm,hst,hsd,hdv⟩:=u.GC hk3;rw[<- hpa]at hs;rw[hs]at hinv;simp only[List.head?_cons,hsd]at hinv;refine ae (fun h3=>?_) (fun h3=>?_) <;> (rw[h3];conv=>whnf)
 . have hl8:kept.length=8:=by simp at h3;omega
   have:f=0:=by omega
   subst this;refine af rfl ?_;rw[<- hinv];rfl
 . rw[hs];refine⟨by decide,ay s,rfl,?_⟩
   conv=>whnf
   refine⟨by(show(kept.map ay).length+1<=_);simp;omega,by(show((kept.map ay).length+1)*80<=_);simp;omega,?_⟩
   conv=>whnf
   refine⟨by decide,ay s,rfl,?_⟩
   conv=>whnf
   refine⟨by decide,bG d,(by rw[hsd];rfl:(s.set.data.map bG)[(0:Int).toNat]? =some (bG d)),?_⟩
   conv=>whnf
   have hl8:kept.length<8:=by simp at h3;omega
   refine⟨(⟨d.text,q.type⟩,kept++[s]),⟨?_,by simp;omega,?_⟩,by(show 9-(kept++[s]).length<9-kept.length);simp;omega,ah.keep ⟨⟨rfl,rfl⟩,⟨rfl,rfl⟩,⟨rfl,rfl⟩,⟨rfl,rfl⟩,⟨rfl,rfl⟩,trivial⟩ ⟨⟨rfl,rfl⟩,⟨rfl,rfl⟩,⟨rfl,rfl⟩,⟨rfl,rfl⟩,⟨?_,rfl⟩,trivial⟩⟩
   . unfold bu at hq ⊢;simp only[Bool.and_eq_true]at hq ⊢;exact⟨⟨hdv,hq.1.2⟩,hq.2⟩
   . rw[<- hinv]
     congr 1
     simp;omega
   . show some (Blk.row _ _ (kept.map ay++[ay s]) _)=_
     rw[List.map_append];rfl
end Go.Proofs.YtcecidfnchcagaaGreatDoor
