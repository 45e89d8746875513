/-
  Merged texts.
-/
import Derived.Test.YtmaepddmaghpjaaGreatDoorMQrc
import Derived.Test.YtmaepddmaghpjaaGreatDoorMLrc
set_option linter.all false
set_option maxRecDepth 100000
namespace NP
open NQ Go
structure eu where
 name:Bs
 addr:Int
 owner:Int
 deriving DecidableEq
structure ai where
 host:Int
 zone:aF
 deriving DecidableEq
structure az where
 hosts:List eu
 zones:List ai
 anchor:gx
 hints:List Int
def dS(h:eu):List D:=[.str h.name,.int .i64 h.addr,.int .i64 h.owner]
def aV(p:ai):List D:=[.int .i64 p.host,.str p.zone.apex,.slice 5 (p.zone.sets.map ax)]
def aZ(w:az):List D:=[.slice 3 (w.hosts.map dS),.slice 3 (w.zones.map aV),.str w.anchor.name,.int .i64 w.anchor.type,.int .i64 w.anchor.life,.slice 3 (w.anchor.data.map bz),.slice 1 (w.hints.map λn=>[.int .i64 n])]
def dz(f:ai->Bool):Nat->List ai->List (List D)
 |_,[]=>[]
 |i,p::t=>if f p=true then[.int .i64 i,.agg (aV p)]::dz f (i+1) t else dz f (i+1) t
theorem pD(f:ai->Bool):∀(i:Nat) (a b:List ai),dz f i (a++b)=dz f i a++dz f (i+a.length) b
 |i,[],b=>by simp[dz]
 |i,p::t,b=>by
  simp only[List.cons_append,dz];rw[pD f (i+1) t b];have:i+1+t.length=i+(p::t).length:=by simp;omega
  rw[this];split <;> rfl
theorem sL{f:ai->Bool}{l:List ai}{k:Nat}{p:ai}(h:l[k]? =some p):dz f 0 (l.take (k+1))=dz f 0 (l.take k)++(if f p=true then[[.int .i64 k,.agg (aV p)]]else[]):=by
 have hk:=(ar.1 h).1;rw[List.take_add_one,h,pD];have:(l.take k).length=k:=by simp;omega
 rw[this];simp[dz]
theorem Ox{f:ai->Bool}{l:List ai}{k:Nat}{p:ai}(h:l[k]? =some p)(hf:f p=true):(dz f 0 l)[(dz f 0 (l.take k)).length]? =some [.int .i64 k,.agg (aV p)]:=by
 have e:l=l.take (k+1)++l.drop (k+1):=(List.take_append_drop ..).symm;have h2:=pD f 0 (l.take (k+1)) (l.drop (k+1));rw[<- e]at h2;rw[h2,sL h,if_pos hf];simp
end NP
namespace Go.Proofs.YtmaepddmaghpjaaGreatDoor
open NQ Go NP Go.RowKit
theorem Df(w:az)(okf:FuncId)(x y:D)(f:ai->Bool)(hf:∀p∈w.zones,NQ.Fn cx okf [.agg (aV p),x,y] (.d (.bool (f p))) [])(hc:cx.chg okf=0)(hn:w.zones.length<=100000) :
 Kt cx 119 [.ptr (aZ w),.ptr [.fn okf [] [x,y]]] (dz f 0 w.zones):=by
 refine rl (fun|3=>[77777]|_=>[]) aO mixed Tryz.func119 (by kernel_rfl) rfl rfl (ag rfl) ?_
 conv=>whnf
 refine⟨rfl,?_⟩
 conv=>whnf
 refine⟨Nat,λk=>(((dz f 0 (w.zones.take k)).length,true),⟨[(1,.d (.ptr (aZ w))),(2,.d (.ptr [.fn okf [] [x,y]])),(7,.d (.slice 3 (w.zones.map aV))),(8,.d (.int .i64 ((w.zones.map aV).length:Int))),(9,.d (.int .i64 k))],[]⟩),
  λk=>k<=w.zones.length,λk=>w.zones.length-k,⟨0,Nat.zero_le _,by simp[dz],aj.keep ⟨ab,ab,ab,ab,ab,trivial⟩ trivial⟩,λk hk=>?_⟩
 conv=>whnf
 refine⟨rfl,?_⟩
 conv=>whnf
 refine ae (λh1=>?_) (λh1=>?_) <;> (rw[h1];conv=>whnf)
 . obtain⟨p,hp⟩:∃p,w.zones[k]? =some p:=⟨_,ah (by simpa using h1)⟩
   have hkl:=(ar.1 hp).1;refine⟨rfl,?_⟩
   conv=>whnf
   refine⟨aw k,aV p,aG hp,?_⟩
   conv=>whnf
   refine⟨rfl,?_⟩
   conv=>whnf
   refine⟨rfl,?_⟩
   conv=>whnf
   refine⟨rfl,?_⟩
   conv=>whnf
   try (rw[hc];conv=>whnf)
   (refine⟨_,_,hf p (ao hp),?_⟩;conv=>whnf)
   repeat' (first|(refine⟨rfl,?_⟩;conv=>whnf)|(refine ae (λh=>?_) (λh=>?_) <;> (rw[h];conv=>whnf)))
   . refine⟨_,_,⟨Ox hp h,rfl⟩,rfl,λb=>?_⟩
     conv=>whnf
     cases b with
     |true =>
      repeat' (first|(refine⟨rfl,?_⟩;conv=>whnf)|fail)
      refine⟨k+1,by show k+1<=_;omega,by show w.zones.length-(k+1)<w.zones.length-k;omega,?_,aj.keep ⟨ab,ab,ab,ab,⟨an (by omega),rfl⟩,trivial⟩ trivial⟩;show((dz f 0 (List.take (k+1) w.zones)).length,true)=((dz f 0 (List.take k w.zones)).length+1,true)
      rw[sL hp,if_pos h];simp
     |false =>
      repeat' (first|(refine⟨rfl,?_⟩;conv=>whnf)|fail)
      exact⟨trivial,λh=>by cases h⟩
   . refine⟨k+1,by show k+1<=_;omega,by show w.zones.length-(k+1)<w.zones.length-k;omega,?_,aj.keep ⟨ab,ab,ab,ab,⟨an (by omega),rfl⟩,trivial⟩ trivial⟩;show((dz f 0 (List.take (k+1) w.zones)).length,true)=((dz f 0 (List.take k w.zones)).length,true)
     rw[sL hp,if_neg (by rw[h];simp)];simp
 . refine⟨trivial,λ_=>?_⟩;obtain rfl:k=w.zones.length:=by simp at h1;omega
   simp
theorem KV(w:az)(okf:FuncId)(caps:List D):NQ.Fn cx 74 [.agg (aZ w),.fn okf [] caps] (.d (.fn 119 [] [.ptr (aZ w),.ptr [.fn okf [] caps]])) []:=by
 refine cC (fun|1=>[2,3]|_=>[]) aO mixed Tryz.func74 (by kernel_rfl) rfl (ag rfl) ?_
 conv=>whnf
 exact af rfl rfl
theorem MY(s a:Bs):NQ.Fn cx 76 [.str s,.str a] (.d (.bool (bq s a).1)) []:=by
 refine aA aO mixed Tryz.func76 (by kernel_rfl) rfl (ag rfl) ?_;conv=>whnf
 (refine⟨_,_,po s a,?_⟩;conv=>whnf)
 exact af rfl rfl
theorem Ns(host:Int)(q:aR)(p:ai):NQ.Fn cx 75 [.agg (aV p),.ptr [.int .i64 host],.ptr (cL q)] (.d (.bool (decide (p.host=host)&&(bq q.name p.zone.apex).1))) []:=by
 refine aA aO mixed Tryz.func75 (by kernel_rfl) rfl (ag rfl) ?_;conv=>whnf
 repeat' (first|(refine⟨_,_,MY q.name p.zone.apex,?_⟩;conv=>whnf)|(refine ae (λh=>?_) (λh=>?_) <;> (rw[h];conv=>whnf))|fail)
 all_goals (refine af rfl ?_;show AV.d (D.bool _)=AV.d (D.bool _);congr 2;simp_all;done)
end Go.Proofs.YtmaepddmaghpjaaGreatDoor
namespace NP
open NQ Go
def gp(s:Bs):Int:=((dC s).1.length:Int)
end NP
namespace Go.Proofs.YtmaepddmaghpjaaGreatDoor
open NQ Go NP Go.RowKit
theorem BU(s:Bs):NQ.Fn cx 79 [.str s] (.d (.int .i64 (gp s))) []:=by
 refine aA aO mixed Tryz.func79 (by kernel_rfl) rfl (ag rfl) ?_;conv=>whnf
 (refine⟨_,_,tO s,?_⟩;conv=>whnf)
 refine af rfl ?_;show AV.d (.int .i64 (((dC s).1.map aL).length:Int))=_
 rw[ak];rfl
end Go.Proofs.YtmaepddmaghpjaaGreatDoor
namespace NP
open NQ Go
def LB(s:Bs):List ai->Bs×Int->Bs×Int
 |[],b=>b
 |p::t,b=>LB s t (if (bq s p.zone.apex).1=true/\b.2<gp p.zone.apex then(p.zone.apex,gp p.zone.apex)else b)
theorem sJ(f:ai->Bool):∀(i:Nat) (l:List ai) (k:Nat) (x:List D),(dz f i l)[k]? =some x-> ∃j p,x=[.int .i64 (j:Nat),.agg (aV p)]/\(l.filter f)[k]? =some p
 |i,[],k,x,h=>by simp[dz]at h
 |i,p::t,k,x,h=>by
  unfold dz at h;by_cases hp:f p=true
  . rw[if_pos hp]at h;rw[List.filter_cons_of_pos hp];cases k with
    |zero=>cases h;exact⟨i,p,rfl,rfl⟩
    |succ k=>exact sJ f (i+1) t k x (by simpa using h)
  . rw[if_neg hp]at h;rw[List.filter_cons_of_neg hp];exact sJ f (i+1) t k x h
theorem Lv(f:ai->Bool)(i:Nat)(l:List ai)(x:List D)(h:x∈dz f i l):x.length=2:=by
 obtain⟨k,hk⟩:=cj h;obtain⟨j,p,rfl,_⟩:=sJ f i l k x hk;rfl
theorem sK(f:ai->Bool):∀(i:Nat) (l:List ai),(dz f i l).length=(l.filter f).length
 |i,[]=>rfl
 |i,p::t=>by
  unfold dz;by_cases hp:f p=true
  . rw[if_pos hp,List.filter_cons_of_pos hp,List.length_cons,List.length_cons,sK f (i+1) t]
  . rw[if_neg hp,List.filter_cons_of_neg hp,sK f (i+1) t]
def hAt(s:Bs)(w:az)(k:Nat):Bs×Int:=LB s ((w.zones.filter λp=>(bq s p.zone.apex).1).take k) ([], -1)
end NP
namespace Go.Proofs.YtmaepddmaghpjaaGreatDoor
open NQ Go NP Go.RowKit
theorem OR(p q:ai):NQ.Fn cx 118 [.agg (aV p),.agg (aV q)] (.d (.bool (decide ((dV p.zone).1>(dV q.zone).1)||(decide ((dV p.zone).1=(dV q.zone).1)&&decide (p.host<q.host))))) []:=by
 refine aA aO mixed Tryz.func118 (by kernel_rfl) rfl (ag rfl) ?_;conv=>whnf
 (refine⟨_,_,BE p.zone,?_⟩;conv=>whnf)
 (refine⟨_,_,BE q.zone,?_⟩;conv=>whnf)
 repeat' (first|(refine ae (λh=>?_) (λh=>?_) <;> (rw[h];conv=>whnf))|fail)
 all_goals (refine af rfl ?_;show AV.d (D.bool _)=AV.d (D.bool _);congr 2 <;> simp_all)
end Go.Proofs.YtmaepddmaghpjaaGreatDoor
namespace NP
open NQ Go
def fE(n:Int):Bool:=decide (n>=1)&&decide (n<=1000000)
def tB(s:Bs):Bool:=(dC s).1.head? ==some [42]
theorem PR{s:Bs}(h:aq s=true):tB s=ff s:=by
 rw[BW h];unfold tB dC;rw[if_pos h]
def zT(l:List Int):List (List D×D):=l.map λa=>([.tuple [.int .i64 a]],.bool true)
theorem tW(a:Int):∀l:List Int,eL (.int .i64 a) (zT l)=some (if l.contains a=true then some (.bool true)else none)
 |[]=>rfl
 |x::l=>by
  show(match eG (.int .i64 a) [.tuple [.int .i64 x]]with|some true=>_|some false=>eL (.int .i64 a) (zT l)|none=>none)=_
  have:eG (.int .i64 a) [.tuple [.int .i64 x]]=some (a==x):=by simp[eG]
  rw[this];cases h:(a==x)with
  | true => have e : a = x := by simpa using h
            subst e;simp
  |false=>simp only[List.contains_cons,h,dF];exact tW a l
theorem Nn{a:Int}{l:List Int}(h:l.contains a=false):qD (.int .i64 a) (.bool true) (zT l)=some (zT (l++[a])):=by
 rw[JU (by rw[tW,h];rfl)];simp[zT]
def ij:List Int->List eu->Bool
 |_,[]=>true
 |seen,h::t=> !(!aq h.name||tB h.name||decide (h.owner<0)||decide (h.owner>=32))&& !(!fE h.addr||seen.contains h.addr)&&ij (seen++[h.addr]) t
def kj(l:List eu):Bool:=decide ((l.length:Int)<=64)&&ij [] l
theorem yO{l:List eu}{k:Nat}{h:eu}(hh:l[k]? =some h)(seen:List Int):ij seen (l.drop k)=(!(!aq h.name||tB h.name||decide (h.owner<0)||decide (h.owner>=32))&& !(!fE h.addr||seen.contains h.addr)&&ij (seen++[h.addr]) (l.drop (k+1))):=by
 rw[drop_cons hh];rfl
def nE(s:gx)(hints:List Int):Bool:=dL s&&(s.type==6)&&(s.name==[46])&&decide ((hints.length:Int)>=1)&&decide ((hints.length:Int)<=8)&&hints.all fE
end NP
namespace Go.Proofs.YtmaepddmaghpjaaGreatDoor
open NQ Go NP Go.RowKit
theorem BV(q:aR):NQ.Fn cx 69 [.agg (cL q)] (.d (.bool (bK q))) []:=by
 refine aA aO mixed Tryz.func69 (by kernel_rfl) rfl (ag rfl) ?_;conv=>whnf
 (refine⟨_,_,jc q.name,?_⟩;conv=>whnf)
 repeat' (first|(refine ae (λh=>?_) (λh=>?_) <;> (rw[h];conv=>whnf))|(refine af rfl ?_;show AV.d (D.bool false)=_;(try simp only[ak]at *);simp only[bK, *, if_true,if_false,aB];done)|(refine af rfl ?_;show AV.d (D.bool true)=_;(try simp only[ak]at *);simp only[bK, *, if_true,if_false,aB];done)|fail)
 all_goals (refine af rfl ?_;show AV.d (D.bool _)=AV.d (D.bool _);congr 2;simp_all [bK])
theorem Fg(n:Int):NQ.Fn cx 107 [.int .i64 n] (.d (.bool (fE n))) []:=by
 refine aA aO mixed Tryz.func107 (by kernel_rfl) rfl (ag rfl) ?_;conv=>whnf
 repeat' (first|(refine ae (λh=>?_) (λh=>?_) <;> (rw[h];conv=>whnf))|fail)
 all_goals (refine af rfl ?_;show AV.d (D.bool _)=AV.d (D.bool _);congr 2;unfold fE;simp only[*, if_true,if_false,aB])
theorem PO(n:Int):NQ.Fn cx 109 [.int .i64 n] (.d (.bool (!fE n))) []:=by
 refine aA aO mixed Tryz.func109 (by kernel_rfl) rfl (ag rfl) ?_;conv=>whnf
 (refine⟨_,_,Fg n,?_⟩;conv=>whnf)
 exact af rfl rfl
theorem PQ(s:Bs):NQ.Fn cx 106 [.str s] (.d (.bool (tB s))) []:=by
 refine aA aO mixed Tryz.func106 (by kernel_rfl) rfl (ag rfl) ?_;conv=>whnf
 (refine⟨_,_,tO s,?_⟩;conv=>whnf)
 (refine ae (λh=>?_) (λh=>?_) <;> (rw[h];conv=>whnf))
 . cases hl:(dC s).1 with
   |nil=>rw[hl]at h;simp at h
   |cons x t =>
    refine⟨by decide,aL x,rfl,?_⟩
    conv=>whnf
    refine af rfl ?_;show AV.d (D.bool _)=AV.d (D.bool _)
    congr 2
    unfold tB;rw[hl];simp
 . refine af rfl ?_;show AV.d (D.bool _)=AV.d (D.bool _)
   congr 2
   unfold tB;cases hl:(dC s).1 with
   |nil=>rfl
   |cons x t=>rw[hl]at h;simp at h
theorem LF(l:List Int)(p:Int->Bool)(hn:l.length<=100000)(hf:∀s∈l,NQ.Fn cx 109 [.int .i64 s] (.d (.bool (p s))) []) :
 NQ.Fn cx 62 [.slice 1 (l.map ba),.fn 109 [] []] (.d (.int .i64 (match l.findIdx? p with|some k=>(k:Int)|none=> -1))) []:=by
 refine aA aO mixed Tryz.func62 (by kernel_rfl) rfl (ag rfl) ?_;conv=>whnf
 refine⟨Nat,λk=>⟨[(0,.d (.slice 1 (l.map ba))),(1,.d (.fn 109 [] [])),(6,.d (.slice 1 (l.map ba))),(7,.d (.int .i64 ((l.map ba).length:Int))),(8,.d (.int .i64 k))],[]⟩,λk=>k<=l.length/\ ∀j y,j<k->l[j]? =some y->p y=false,λk=>l.length-k,
  ⟨0,⟨by omega,λj y h=>by omega⟩,aj.keep ⟨ab,ab,ab,ab,ab,trivial⟩ trivial⟩,λk hk=>?_⟩
 obtain⟨hk,hall⟩:=hk
 conv=>whnf
 refine ae (λh1=>?_) (λh1=>?_) <;> (rw[h1];conv=>whnf)
 . have hlt:k<l.length:=by simp at h1;omega
   obtain⟨s,hs⟩:∃s,l[k]? =some s:=⟨_,ah hlt⟩
   refine⟨aw k,ba s,aG hs,?_⟩
   conv=>whnf
   (refine⟨_,_,hf s (ao hs),?_⟩;conv=>whnf)
   refine ae (λh2=>?_) (λh2=>?_) <;> (rw[h2];conv=>whnf)
   . refine af rfl ?_;have:l.findIdx? p=some k:=by
      rw[List.findIdx?_eq_some_iff_getElem];obtain⟨g1,g2⟩:=ar.1 hs;refine⟨g1,by rw[g2];exact h2,λj hj=>?_⟩;have:=hall j (l[j]) hj (ah (by omega));rw[this];decide
     rw[this];rfl
   . refine⟨k+1,⟨hlt,λj y hj hy=>?_⟩,by(show l.length-(k+1)<l.length-k;omega),aj.keep ⟨ab,ab,ab,ab,⟨an (by omega),rfl⟩,trivial⟩ trivial⟩;rcases Nat.lt_succ_iff_lt_or_eq.1 hj with hj|rfl
     . exact hall j y hj hy
     . rw[hs]at hy;cases hy;exact h2
 . obtain rfl:k=l.length:=by simp at h1;omega
   refine af rfl ?_;have:l.findIdx? p=none:=by
    rw[List.findIdx?_eq_none_iff];intro x hx;obtain⟨i,hi⟩:=cj hx;exact hall i x (ar.1 hi).1 hi
   rw[this];rfl
theorem Qy(h:eu)(a:Int):NQ.Fn cx 73 [.agg (dS h),.ptr [.int .i64 a]] (.d (.bool (h.addr==a))) []:=by
 refine aA aO mixed Tryz.func73 (by kernel_rfl) rfl (ag rfl) ?_;conv=>whnf
 exact af rfl rfl
theorem Jc(l:List eu)(p:eu->Bool)(x:D)(hn:l.length<=100000)(hf:∀s∈l,NQ.Fn cx 73 [.agg (dS s),x] (.d (.bool (p s))) []) :
 NQ.Fn cx 72 [.slice 3 (l.map dS),.fn 73 [] [x]] (.d (.int .i64 (match l.findIdx? p with|some k=>(k:Int)|none=> -1))) []:=by
 refine aA aO mixed Tryz.func72 (by kernel_rfl) rfl (ag rfl) ?_;conv=>whnf
 refine⟨Nat,λk=>⟨[(0,.d (.slice 3 (l.map dS))),(1,.d (.fn 73 [] [x])),(7,.d (.int .i64 ((l.map dS).length:Int))),(8,.d (.int .i64 k))],[]⟩,λk=>k<=l.length/\ ∀j y,j<k->l[j]? =some y->p y=false,λk=>l.length-k,
  ⟨0,⟨by omega,λj y h=>by omega⟩,aj.keep ⟨ab,ab,ab,ab,trivial⟩ trivial⟩,λk hk=>?_⟩
 obtain⟨hk,hall⟩:=hk
 conv=>whnf
 refine ae (λh1=>?_) (λh1=>?_) <;> (rw[h1];conv=>whnf)
 . have hlt:k<l.length:=by simp at h1;omega
   obtain⟨s,hs⟩:∃s,l[k]? =some s:=⟨_,ah hlt⟩
   refine⟨aw k,dS s,aG hs,?_⟩
   conv=>whnf
   (refine⟨_,_,hf s (ao hs),?_⟩;conv=>whnf)
   refine ae (λh2=>?_) (λh2=>?_) <;> (rw[h2];conv=>whnf)
   . refine af rfl ?_;have:l.findIdx? p=some k:=by
      rw[List.findIdx?_eq_some_iff_getElem];obtain⟨g1,g2⟩:=ar.1 hs;refine⟨g1,by rw[g2];exact h2,λj hj=>?_⟩;have:=hall j (l[j]) hj (ah (by omega));rw[this];decide
     rw[this];rfl
   . refine⟨k+1,⟨hlt,λj y hj hy=>?_⟩,by(show l.length-(k+1)<l.length-k;omega),aj.keep ⟨ab,ab,ab,⟨an (by omega),rfl⟩,trivial⟩ trivial⟩;rcases Nat.lt_succ_iff_lt_or_eq.1 hj with hj|rfl
     . exact hall j y hj hy
     . rw[hs]at hy;cases hy;exact h2
 . obtain rfl:k=l.length:=by simp at h1;omega
   refine af rfl ?_;have:l.findIdx? p=none:=by
    rw[List.findIdx?_eq_none_iff];intro x hx;obtain⟨i,hi⟩:=cj hx;exact hall i x (ar.1 hi).1 hi
   rw[this];rfl
theorem Fh(l:List Int)(hl:l.length<=100000):NQ.Fn cx 27 [.slice 1 (l.map ba),.fn 109 [] []] (.d (.bool (!l.all fE))) []:=by
 refine aA aO mixed Tryz.func27 (by kernel_rfl) rfl (ag rfl) ?_;conv=>whnf
 (refine⟨_,_,LF l (λn=> !fE n) hl (λs _=>PO s),?_⟩;conv=>whnf)
 refine af rfl ?_;show AV.d (D.bool (decide ((match l.findIdx? (λn=> !fE n)with|some k=>(k:Int)|none=> -1)>=0)))=_
 congr 2
 cases h:l.findIdx? (λn=> !fE n)with
 |some k =>
  obtain⟨h1,h2,_⟩:=List.findIdx?_eq_some_iff_getElem.1 h;rw[decide_eq_true (aw k)];have:l.all fE=false:=by
   rw[<- Bool.not_eq_true,av];intro hall;rw[hall _ (List.getElem_mem h1)]at h2;cases h2
  rw[this];rfl
 |none =>
  have:l.all fE=true:=by
   rw[av];intro x hx;have:=List.findIdx?_eq_none_iff.1 h x hx;simpa using this
  rw[this];rfl
theorem Fa(s:gx)(hints:List Int)(hl:hints.length<=100000):NQ.Fn cx 56 [.agg (mG s),.slice 1 (hints.map ba)] (.d (.bool (nE s hints))) []:=by
 refine aA aO mixed Tryz.func56 (by kernel_rfl) rfl (ag rfl) ?_;conv=>whnf
 (refine⟨_,_,wK s,?_⟩;conv=>whnf)
 repeat' (first|(refine ae (λh=>?_) (λh=>?_) <;> (rw[h];conv=>whnf))|fail)
 all_goals first
  |(refine af rfl ?_;show AV.d (D.bool false)=_;(try simp only[ak]at *);unfold nE;simp_all;done)
  |skip
 all_goals first
  | ((refine ⟨_, _, Fh hints hl, ?_⟩; conv => whnf)
     refine af rfl ?_;show AV.d (D.bool _)=AV.d (D.bool _)
     congr 2
     (try simp only[ak]at *)
     unfold nE
     simp_all;done)
  |(refine af rfl ?_;show AV.d (D.bool false)=_;(try simp only[ak]at *);unfold nE;simp_all;omega)
theorem Co(l:List eu)(hl:l.length<=100000):NQ.Fn cx 54 [.slice 3 (l.map dS)] (.d (.bool (kj l))) []:=by
 refine aA aO mixed Tryz.func54 (by kernel_rfl) rfl (ag rfl) ?_;conv=>whnf
 rw[ak];refine ae (λh=>?_) (λh=>?_) <;> (rw[h];conv=>whnf)
 . refine af rfl ?_;show AV.d (D.bool _)=AV.d (D.bool _)
   congr 2
   unfold kj;simp at h;simp;omega
 have hle:kj l=ij [] l:=by unfold kj;simp at h;simp;omega
 rw[hle];refine⟨Nat,λk=>⟨[(10,.d (.slice 3 (l.map dS))),(11,.d (.int .i64 ((l.map dS).length:Int))),(12,.d (.int .i64 k)),(3,.omap 9)],[(9,.kmap (zT ((l.take k).map (·.addr))))]⟩,λk=>k<=l.length/\ij ((l.take k).map (·.addr)) (l.drop k)=ij [] l,λk=>l.length-k,
  ⟨0,⟨Nat.zero_le _,rfl⟩,aj.keep ⟨ab,ab,ab,ab,trivial⟩ ⟨ab,trivial⟩⟩,λk ⟨hk,hinv⟩=>?_⟩
 conv=>whnf
 refine ae (λh1=>?_) (λh1=>?_) <;> (rw[h1];conv=>whnf)
 . have hlt:k<l.length:=by simpa using h1
   obtain⟨x,hx⟩:∃x,l[k]? =some x:=⟨_,ah hlt⟩
   rw[yO hx]at hinv;refine⟨aw k,dS x,aG hx,?_⟩
   conv=>whnf
   repeat' (first|(refine⟨_,_,jc x.name,?_⟩;conv=>whnf)|(refine⟨_,_,PQ x.name,?_⟩;conv=>whnf)|(refine⟨_,_,Fg x.addr,?_⟩;conv=>whnf)|(refine ae (λh=>?_) (λh=>?_) <;> (rw[h];conv=>whnf))|(refine⟨_,tW x.addr _,?_⟩;cases hc:((l.take k).map (·.addr)).contains x.addr <;> (conv=>whnf))|fail)
   all_goals first
    |(refine af rfl ?_;show AV.d (D.bool false)=AV.d (D.bool _);rw[<- hinv];simp_all;done)
    | (refine ⟨_, Nn hc, ?_⟩
       conv=>whnf
       refine⟨k+1,⟨hlt,?_⟩,by(show l.length-(k+1)<l.length-k;omega),aj.keep ⟨ab,ab,⟨an (by omega),rfl⟩,ab,trivial⟩ ⟨⟨?_,rfl⟩,trivial⟩⟩
       . rw[bj hx,List.map_append];rw[<- hinv];simp_all
       . rw[bj hx,List.map_append];rfl)
 . obtain rfl:k=l.length:=by simp at h1;omega
   refine af rfl ?_;rw[<- hinv,List.drop_length];rfl
end Go.Proofs.YtmaepddmaghpjaaGreatDoor
namespace NP
open NQ Go
def pmap(l:List ai):List (List D×D):=l.map λp=>([.int .i64 p.host,.str p.zone.apex],.bool true)
def df(p x:ai):Bool:=(p.host==x.host)&&(p.zone.apex==x.zone.apex)
theorem vf(p:ai):∀l:List ai,ko [.int .i64,.str] [.int .i64 p.host,.str p.zone.apex] (pmap l)=some (if l.any (df p)=true then some (.bool true)else none)
 |[]=>rfl
 |x::l=>by
  show(match cm [.int .i64,.str] [.d (.int .i64 p.host),.d (.str p.zone.apex)] [.d (.int .i64 x.host),.d (.str x.zone.apex)]with|some true=>_|some false=>ko _ _ (pmap l)|none=>none)=_
  have:cm [.int .i64,.str] [.d (.int .i64 p.host),.d (.str p.zone.apex)] [.d (.int .i64 x.host),.d (.str x.zone.apex)]=some (df p x):=by
   show some ((p.host==x.host)&&((p.zone.apex==x.zone.apex)&&true))=_
   rw[gM];rfl
  rw[this,List.any_cons];cases h:df p x with
  |true=>simp
  |false=>simp only[dF];exact vf p l
theorem Pb{p:ai}{l:List ai}(h:l.any (df p)=false):mz [.int .i64,.str] [.int .i64 p.host,.str p.zone.apex] (.bool true) (pmap l)=some (pmap (l++[p])):=by
 rw[yT (by rw[vf,h];rfl)];simp[pmap]
def apx(l:List ai):List (Bs×D):=l.foldl (λm p=>dB p.zone.apex (.bool true) m) []
theorem Nr(l:List ai)(p:ai):apx (l++[p])=dB p.zone.apex (.bool true) (apx l):=by unfold apx;rw[List.foldl_append];rfl
def dx(n:Nat):List ai->List ai->Bool
 |_,[]=>true
 |seen,p::t=> !(decide (p.host<0)||decide (p.host>=(n:Int))||seen.any (df p)|| !aW p.zone)&&dx n (seen++[p]) t
def jI(w:az):Bool:=decide ((w.zones.length:Int)<=4000)&&dx w.hosts.length [] w.zones&&decide (((apx w.zones).length:Int)<=500)
theorem wm{n:Nat}{l:List ai}{k:Nat}{p:ai}(hp:l[k]? =some p)(seen:List ai):dx n seen (l.drop k)=(!(decide (p.host<0)||decide (p.host>=(n:Int))||seen.any (df p)|| !aW p.zone)&&dx n (seen++[p]) (l.drop (k+1))):=by
 rw[drop_cons hp];rfl
def aN(w:az):Bool:=kj w.hosts&&jI w&&nE w.anchor w.hints
end NP
namespace Go.Proofs.YtmaepddmaghpjaaGreatDoor
open NQ Go NP Go.RowKit
theorem AO(w:az)(hl:w.zones.length<=100000):NQ.Fn cx 55 [.agg (aZ w)] (.d (.bool (jI w))) []:=by
 refine aA aO mixed Tryz.func55 (by kernel_rfl) rfl (ag rfl) ?_;conv=>whnf
 rw[ak];refine ae (λh=>?_) (λh=>?_) <;> (rw[h];conv=>whnf)
 . refine af rfl ?_;show AV.d (D.bool _)=AV.d (D.bool _)
   congr 2
   unfold jI;simp at h;simp;omega
 have hle:jI w=(dx w.hosts.length [] w.zones&&decide (((apx w.zones).length:Int)<=500)):=by
  have:decide ((w.zones.length:Int)<=4000)=true:=by simp at h ⊢;omega
  unfold jI;rw[this,du]
 rw[hle];refine⟨Nat,λk=>⟨[(1,.ptr 1 0),(15,.d (.slice 3 (w.zones.map aV))),(16,.d (.int .i64 ((w.zones.map aV).length:Int))),(17,.d (.int .i64 k)),(3,.omap 12),(4,.omap 13)],[(1,.box ((aZ w).map .d)),(12,.kmap (pmap (w.zones.take k))),(13,.smap (apx (w.zones.take k)))]⟩,λk=>k<=w.zones.length/\dx w.hosts.length (w.zones.take k) (w.zones.drop k)=dx w.hosts.length [] w.zones,λk=>w.zones.length-k,
  ⟨0,⟨Nat.zero_le _,rfl⟩,aj.keep ⟨ab,ab,ab,ab,ab,ab,trivial⟩ ⟨ab,ab,ab,trivial⟩⟩,λk ⟨hk,hinv⟩=>?_⟩
 conv=>whnf
 refine ae (λh1=>?_) (λh1=>?_) <;> (rw[h1];conv=>whnf)
 . have hlt:k<w.zones.length:=by simpa using h1
   obtain⟨x,hx⟩:∃x,w.zones[k]? =some x:=⟨_,ah hlt⟩
   rw[wm hx]at hinv;refine⟨aw k,aV x,aG hx,?_⟩
   conv=>whnf
   repeat' (first|(refine⟨_,_,qN x.zone,?_⟩;conv=>whnf)|(refine ae (λh=>?_) (λh=>?_) <;> (rw[h];conv=>whnf))|(refine⟨_,vf x _,?_⟩;cases hc:(w.zones.take k).any (df x) <;> (conv=>whnf))|fail)
   all_goals first
    |(refine af rfl ?_;show AV.d (D.bool false)=AV.d (D.bool _);rw[<- hinv];clear hinv hle;(try simp only[ak]at *);simp only[*, if_true,if_false,aB];done)
    | (refine ⟨_, Pb hc, ?_⟩
       conv=>whnf
       refine⟨k+1,⟨hlt,?_⟩,by(show w.zones.length-(k+1)<w.zones.length-k;omega),aj.keep ⟨ab,ab,ab,⟨an (by omega),rfl⟩,ab,ab,trivial⟩ ⟨ab,⟨?_,rfl⟩,⟨?_,rfl⟩,trivial⟩⟩
       . rw[bj hx];rw[<- hinv];clear hinv hle;(try simp only[ak]at *);simp only[*, if_true,if_false,aB]
       . rw[bj hx];rfl
       . rw[bj hx,Nr];rfl)
 . obtain rfl:k=w.zones.length:=by simp at h1;omega
   refine af rfl ?_;rw[<- hinv,List.drop_length,List.take_length];rfl
theorem vA(w:az)(h1:w.hosts.length<=100000)(h2:w.zones.length<=100000)(h3:w.hints.length<=100000):NQ.Fn cx 20 [.agg (aZ w)] (.d (.bool (aN w))) []:=by
 refine aA aO mixed Tryz.func20 (by kernel_rfl) rfl (ag rfl) ?_;conv=>whnf
 (refine⟨_,_,Co w.hosts h1,?_⟩;conv=>whnf)
 refine ae (λh=>?_) (λh=>?_) <;> (rw[h];conv=>whnf)
 . (refine⟨_,_,AO w h2,?_⟩;conv=>whnf)
   refine ae (λh' =>?_) (λh' =>?_) <;> (rw[h'];conv=>whnf)
   . (refine⟨_,_,Fa w.anchor w.hints h3,?_⟩;conv=>whnf)
     refine af rfl ?_;unfold aN;rw[h,h'];rfl
   . refine af rfl ?_;unfold aN;rw[h,h'];rfl
 . refine af rfl ?_;unfold aN;rw[h];rfl
end Go.Proofs.YtmaepddmaghpjaaGreatDoor
namespace NP
open NQ Go
def fH(a:Bs):List (Bs×Nat)->Option Nat
 |[]=>none
 |(b,i)::t=>if a=b then some i else fH a t
def np(a:Bs)(i:Nat):List (Bs×Nat)->List (Bs×Nat)
 |[]=>[(a,i)]
 |(b,j)::t=>if a=b then(b,i)::t else(b,j)::np a i t
def pF(m:List (Bs×Nat)):List (Bs×D):=m.map λp=>(p.1,.int .i64 (p.2:Int))
theorem DJ(a:Bs):∀m,cD a (pF m)=(fH a m).map λi=>D.int .i64 (i:Int)
 |[]=>rfl
 |(b,i)::t=>by
  show(if a=b then _ else cD a (pF t))=_
  unfold fH;split
  . rfl
  . exact DJ a t
theorem An(a:Bs)(i:Nat):∀m,dB a (.int .i64 (i:Int)) (pF m)=pF (np a i m)
 |[]=>rfl
 |(b,j)::t=>by
  show(if a=b then _ else _::dB a _ (pF t))=_
  unfold np;split
  . rfl
  . rw[An a i t];rfl
theorem GV(a:Bs):∀m,eL (.str a) ((pF m).map cE)=some ((fH a m).map λi=>D.int .i64 (i:Int))
 |[]=>rfl
 |(b,i)::t=>by
  show(match eG (.str a) [.tuple [.str b]]with|some true=>_|some false=>eL (.str a) ((pF t).map cE)|none=>none)=_
  have:eG (.str a) [.tuple [.str b]]=some (a==b):=rfl;rw[this];unfold fH;by_cases h:a=b
  . subst h;simp
  . have:(a==b)=false:=by simp[h]
    rw[this,if_neg h];exact GV a t
theorem od(a b:Bs)(i:Nat):∀m,fH b (np a i m)=if a=b then some i else fH b m
 |[]=>by
  simp only[np,fH];by_cases h:a=b
  . rw[if_pos h.symm,if_pos h]
  . rw[if_neg (Ne.symm h),if_neg h]
 |(c,j)::t=>by
  unfold np;by_cases hc:a=c
  . rw[if_pos hc];subst hc;unfold fH;by_cases h:b=a
    . rw[if_pos h,if_pos h.symm]
    . rw[if_neg h,if_neg h,if_neg (Ne.symm h)]
  . rw[if_neg hc];unfold fH;by_cases h:b=c
    . rw[if_pos h,if_pos h,if_neg (λe=>hc (e.trans h))]
    . rw[if_neg h,if_neg h];exact od a b i t
def dK(p q:ai):Bool:=decide ((dV p.zone).1>(dV q.zone).1)||(decide ((dV p.zone).1=(dV q.zone).1)&&decide (p.host<q.host))
def iD(zs:List ai)(m:List (Bs×Nat))(p:ai):Bool:=match fH p.zone.apex m with
 |none=>true
 |some j=>(match zs[j]? with|some q=>dK p q|none=>false)
def lA(zs:List ai):Nat->List ai->List (Bs×Nat)->List (Bs×Nat)
 |_,[],m=>m
 |i,p::t,m=>lA zs (i+1) t (if iD zs m p=true then np p.zone.apex i m else m)
def fR(zs:List ai):List (Bs×Nat):=lA zs 0 zs []
theorem MK{zs l:List ai}{k:Nat}{p:ai}(hp:l[k]? =some p)(m:List (Bs×Nat)):lA zs k (l.drop k) m=lA zs (k+1) (l.drop (k+1)) (if iD zs m p=true then np p.zone.apex k m else m):=by
 rw[drop_cons hp];rfl
def iL(zs:List ai)(m:List (Bs×Nat)):Prop:= ∀a j,fH a m=some j-> ∃p,zs[j]? =some p/\p.zone.apex=a
theorem iL.put{zs:List ai}{m:List (Bs×Nat)}(h:iL zs m){i:Nat}{p:ai}(hp:zs[i]? =some p):iL zs (np p.zone.apex i m):=by
 intro a j hj;rw[od]at hj;split at hj
 . cases hj;exact⟨p,hp,by assumption⟩
 . exact h a j hj
theorem iL.go{zs:List ai}:∀(l:List ai) (i:Nat) (m:List (Bs×Nat)),(∀j,l[j]? =zs[i+j]?)->iL zs m->iL zs (lA zs i l m)
 |[],i,m,_,h=>h
 |p::t,i,m,hl,h=>by
  unfold lA;refine iL.go t (i+1) _ (λj=>by have:=hl (j+1);simp at this;rw[this];congr 1;omega) ?_;split
  . exact h.put (by have:=hl 0;simpa using this.symm)
  . exact h
theorem vu(zs:List ai):iL zs (fR zs):=iL.go zs 0 [] (λj=>by rw[Nat.zero_add]) (λa j h=>by cases h)
def CD(w:az)(m:List (Bs×Nat)):List D:=aZ w++[.kmap ((pF m).map cE)]
def iV(zs:List ai)(m:List (Bs×Nat))(q:aR):Nat->Bs->Ans×Bool
 |0,_=>(je,false)
 |f+1,a=>match fH a m with
  |none=>(je,false)
  |some i=>(match zs[i]? with
   |some p=>if ((cn p.zone q).1.kind != 4)=true then((cn p.zone q).1,true)else iV zs m q f (cn p.zone q).1.cut
   |none=>(je,false))
def mg(zs:List ai):Prop:= ∀p∈zs,ib p.zone=true/\aW p.zone=true
theorem vg{z:aF}{q:aR}(u:Use z q)(hk:((cn z q).1.kind != 4)=false):aD q.name (cn z q).1.cut=true/\(back z.apex).length<(back (cn z q).1.cut).length/\aq (cn z q).1.cut=true/\(cn z q).1.cut∈cq z.apex z.sets:=by
 cases hr:fb (vw z q)with
 |false =>
  have:=(u.Ru hr).1;simp only[bne,this]at hk;cases hk
 |true =>
  obtain⟨s0,R,h1,h2,h3,_⟩:=u.To hr;rw[h3];have hne:bT z q.name≠[]:=by intro e;rw[yg,e]at hr;cases hr
  have hcut:bT z q.name∈cq z.apex z.sets/\aD q.name (bT z q.name)=true:=by
   unfold bT at hne ⊢;cases hf:(cq z.apex z.sets).find? λc=>aD q.name c with
   |none=>rw[hf]at hne;exact absurd rfl hne
   |some c=>exact⟨List.mem_of_find?_eq_some hf,by have:=List.find?_some hf;simpa using this⟩
  obtain⟨hc,hu⟩:=hcut;have ho:=u.ord;obtain⟨s,hs,hi,he⟩:=(jX z.apex _ z.sets).1 hc;have hua:=ho.under s hs;have hsv:=ho.name s hs;unfold bq at hua;rw[if_pos ⟨hsv,ho.apex⟩,he]at hua;refine⟨hu,?_,he ▸ hsv,hc⟩;have hpre:=(dy _ _).1 hua;have hle:=hpre.length_le;rcases Nat.lt_or_ge (back z.apex).length (back (bT z q.name)).length with h|h
  . exact h
  . have e:back z.apex=back (bT z q.name):=hpre.eq_of_length (by omega);have:bT z q.name=z.apex:=mL hua ((dy _ _).2 (by rw[e];exact List.prefix_rfl));unfold db at hi;rw[he,this]at hi;simp at hi
end NP
namespace Go.Proofs.YtmaepddmaghpjaaGreatDoor
open NQ Go NP Go.RowKit
theorem Jp(w:az)(hl:w.zones.length<=100000):NQ.Fn cx 70 [.agg (aZ w)] (.agg ((CD w (fR w.zones)).map .d)) []:=by
 refine cC (fun|9=>[9]|_=>[]) aO mixed Tryz.func70 (by kernel_rfl) rfl (ag rfl) ?_
 conv=>whnf
 refine ⟨Nat × List (Bs × Nat), fun x => ⟨[(2, .ptr 2 0), (3, .ptr 3 0), (13, .d (.slice 3 (w.zones.map aV))), (14, .d (.int .i64 ((w.zones.map aV).length : Int))), (15, .d (.int .i64 x.1))],
     [(2,.box [.nil 3,.nil 3,.d (.str []),.d (.int .i64 0),.d (.int .i64 0),.nil 3,.nil 1,.d .nmap]),(3,.box ((aZ w).map .d++[.omap 9])),(9,.smap (pF x.2))]⟩,
  λx=>x.1<=w.zones.length/\iL w.zones x.2/\lA w.zones x.1 (w.zones.drop x.1) x.2=fR w.zones,λx=>w.zones.length-x.1,
  ⟨(0,[]),⟨Nat.zero_le _,(λa j h=>by cases h),rfl⟩,aj.keep ⟨ab,ab,ab,ab,ab,trivial⟩ ⟨ab,ab,ab,trivial⟩⟩,λ⟨k,m⟩ ⟨hk,hok,hinv⟩=>?_⟩
 dsimp only at hk hok hinv ⊢
 conv=>whnf
 refine ae (λh1=>?_) (λh1=>?_) <;> (rw[h1];conv=>whnf)
 . have hlt:k<w.zones.length:=by simpa using h1
   obtain⟨x,hx⟩:∃x,w.zones[k]? =some x:=⟨_,ah hlt⟩
   rw[MK hx]at hinv;refine⟨aw k,aV x,aG hx,?_⟩
   conv=>whnf
   rw[DJ];have again:∀m',(m' =if iD w.zones m x=true then np x.zone.apex k m else m)->(k+1<=w.zones.length/\iL w.zones m' /\lA w.zones (k+1) (w.zones.drop (k+1)) m' =fR w.zones):=λm' e=>by
    refine⟨hlt,?_,by rw[e];exact hinv⟩;rw[e];split
    . exact hok.put hx
    . exact hok
   cases hf:fH x.zone.apex m with
   |none =>
    conv=>whnf
    (refine⟨(by kernel_rfl:bg _ _=true),?_⟩;conv=>whnf)
    have ht:iD w.zones m x=true:=by unfold iD;rw[hf]
    refine⟨(k+1,np x.zone.apex k m),again _ (by rw[if_pos ht]),by(show w.zones.length-(k+1)<w.zones.length-k;omega),aj.keep ⟨ab,ab,ab,ab,⟨an (by omega),rfl⟩,trivial⟩ ⟨ab,ab,⟨?_,rfl⟩,trivial⟩⟩;show some (Blk.smap (dB x.zone.apex (.int .i64 (k:Int)) (pF m)))=_
    rw[An]
   |some j =>
    conv=>whnf
    (refine⟨(by kernel_rfl:bg _ _=true),?_⟩;conv=>whnf)
    obtain⟨p,hp,hpa⟩:=hok _ j hf;refine⟨aw j,aV p,aG hp,?_⟩
    conv=>whnf
    (refine⟨_,_,OR x p,?_⟩;conv=>whnf)
    have ht:iD w.zones m x=dK x p:=by unfold iD;rw[hf];dsimp only;rw[hp]
    refine ae (λh2=>?_) (λh2=>?_) <;> (rw[h2];conv=>whnf)
    . have ht:iD w.zones m x=true:=ht.trans h2;refine⟨(k+1,np x.zone.apex k m),again _ (by rw[if_pos ht]),by(show w.zones.length-(k+1)<w.zones.length-k;omega),aj.keep ⟨ab,ab,ab,ab,⟨an (by omega),rfl⟩,trivial⟩ ⟨ab,ab,⟨?_,rfl⟩,trivial⟩⟩;show some (Blk.smap (dB x.zone.apex (.int .i64 (k:Int)) (pF m)))=_
      rw[An]
    . have ht:iD w.zones m x=false:=ht.trans h2;exact⟨(k+1,m),again _ (by rw[if_neg (by rw[ht];simp)]),by(show w.zones.length-(k+1)<w.zones.length-k;omega),aj.keep ⟨ab,ab,ab,ab,⟨an (by omega),rfl⟩,trivial⟩ ⟨ab,ab,ab,trivial⟩⟩
 . obtain rfl:k=w.zones.length:=by simp at h1;omega
   rw[List.drop_length]at hinv;obtain rfl:m=fR w.zones:=hinv;exact af rfl rfl
end Go.Proofs.YtmaepddmaghpjaaGreatDoor
namespace NP
open NQ Go
theorem mc(a:Bs):aD a [46]=true:=by
 rw[dy];show([]:List Bs) <+: _
 exact List.nil_prefix
def dD(zs:List ai)(q:aR):Ans×Bool:=iV zs (fR zs) q ((back q.name).length+2) [46]
theorem JH{q:aR}(h:bK q=true):aq q.name=true:=by
 unfold bK at h;simp only[ay]at h;exact h.1.1
theorem EY{zs:List ai}{q:aR}(hg:mg zs)(hq:bK q=true){m:List (Bs×Nat)}(hm:iL zs m){a:Bs}(hu:aD q.name a=true){f:Nat}(hf:(back q.name).length+1<=f+(back a).length){i:Nat}{p:ai}(hi:fH a m=some i)(hp:zs[i]? =some p)
 (hk:((cn p.zone q).1.kind != 4)=false):Use p.zone q/\aD q.name (cn p.zone q).1.cut=true/\(back a).length<(back (cn p.zone q).1.cut).length/\1<=f:=by
 obtain⟨p',hp',ha⟩:=hm a i hi;rw[hp]at hp';cases hp';obtain⟨g1,g2⟩:=hg p (ao hp);have u:Use p.zone q:=⟨g1,g2,hq,by rw[ha];exact hu⟩
 obtain⟨r1,r2,_⟩:=vg u hk;rw[ha]at r2;refine⟨u,r1,r2,?_⟩;have:=((dy _ _).1 r1).length_le;omega
end NP
namespace Go.Proofs.YtmaepddmaghpjaaGreatDoor
open NQ Go NP Go.RowKit
theorem Cm(w:az)(q:aR)(hg:mg w.zones)(hq:bK q=true):NQ.Fn cx 71 [.agg (CD w (fR w.zones)),.agg (cL q)] (.tuple [.agg ((gR (dD w.zones q).1).map .d),.d (.bool (dD w.zones q).2)]) []:=by
 refine cC (λ_=>[]) aO mixed Tryz.func71 (by kernel_rfl) rfl (ag rfl) ?_
 conv=>whnf
 refine⟨Nat×Bs,λx=>⟨[(2,.ptr 2 0),(3,.ptr 3 0),(4,.ptr 4 0),(6,.d (.str x.2))],[(2,.box ((CD w (fR w.zones)).map .d)),(3,.box ((cL q).map .d)),(4,.box [.d (.int .i64 0),.nil 5,.d (.str [])])]⟩,
  λx=>aD q.name x.2=true/\(back q.name).length+1<=x.1+(back x.2).length/\iV w.zones (fR w.zones) q (x.1+1) x.2=dD w.zones q,λx=>x.1,
  ⟨((back q.name).length+1,[46]),⟨mc q.name,by omega,rfl⟩,aj.keep ⟨ab,ab,ab,ab,trivial⟩ ⟨ab,ab,ab,trivial⟩⟩,λ⟨f,a⟩ ⟨hu,hf,hinv⟩=>?_⟩
 dsimp only at hu hf hinv ⊢
 conv=>whnf
 refine⟨_,GV a (fR w.zones),?_⟩;unfold iV at hinv;cases hfi:fH a (fR w.zones)with
 |none =>
  rw[hfi]at hinv
  conv=>whnf
  refine af rfl ?_;rw[<- hinv];rfl
 |some i =>
  rw[hfi]at hinv
  conv=>whnf
  try (refine⟨(by kernel_rfl:bg _ _=true),?_⟩;conv=>whnf)
  obtain⟨p,hp,hpa⟩:=vu w.zones a i hfi;have hg' :=hg p (ao hp);refine⟨aw i,aV p,aG hp,?_⟩
  conv=>whnf
  (refine⟨_,_,KD p.zone q hg'.1,?_⟩;conv=>whnf)
  dsimp only at hinv;rw[hp]at hinv;dsimp only at hinv;refine ae (λh2=>?_) (λh2=>?_) <;> (rw[h2];conv=>whnf)
  . have h2' :((cn p.zone q).1.kind != 4)=true:=h2;rw[if_pos h2']at hinv;refine af rfl ?_;rw[<- hinv];rfl
  . have h2' :((cn p.zone q).1.kind != 4)=false:=h2;rw[if_neg (by rw[h2'];simp)]at hinv;obtain⟨u,r1,r2,r3⟩:=EY hg hq (vu w.zones) hu hf hfi hp h2';obtain⟨f,rfl⟩:∃g,f=g+1:=⟨f-1,by omega⟩
    exact⟨(f,(cn p.zone q).1.cut),⟨r1,by dsimp only;omega,hinv⟩,by(show f<f+1;omega),aj.keep ⟨ab,ab,ab,ab,trivial⟩ ⟨ab,ab,ab,trivial⟩⟩
end Go.Proofs.YtmaepddmaghpjaaGreatDoor
namespace NP
open NQ Go
theorem vt{zs:List ai}{q:aR}(hg:mg zs)(hq:bK q=true){m:List (Bs×Nat)}(hm:iL zs m):∀(f:Nat) (a:Bs),aD q.name a=true-> ∀x,iV zs m q f a=(x,true)-> ∃p∈zs,Use p.zone q/\x=(cn p.zone q).1/\(x.kind != 4)=true
 |0,a,hu,x,h=>by cases h
 |f+1,a,hu,x,h=>by
  unfold iV at h;cases hi:fH a m with
  |none=>rw[hi]at h;cases h
  |some i =>
   rw[hi]at h;obtain⟨p,hp,ha⟩:=hm a i hi;dsimp only at h;rw[hp]at h;dsimp only at h;have hmem:=ao hp;obtain⟨g1,g2⟩:=hg p hmem;have u:Use p.zone q:=⟨g1,g2,hq,by rw[ha];exact hu⟩
   cases hk:((cn p.zone q).1.kind != 4)with
   |true=>rw[hk,if_pos rfl]at h;cases h;exact⟨p,hmem,u,rfl,hk⟩
   |false =>
    rw[hk,if_neg (by simp)]at h;exact vt hg hq hm f _ (vg u hk).1 x h
theorem vi{zs:List ai}{q:aR}(hg:mg zs)(hq:bK q=true){x:Ans}(h:dD zs q=(x,true)):∃p∈zs,Use p.zone q/\x=(cn p.zone q).1/\(x.kind != 4)=true :=
 vt hg hq (vu zs) _ _ (mc q.name) x h
theorem KB{s:gx}(h:dL s=true)(ht:s.type=3):∃d,s.data=[d]/\aq d.text=true:=by
 unfold dL at h;simp only[ay,Bool.not_eq_true',Bool.or_eq_false_iff,Bool.not_eq_false']at h;obtain⟨⟨⟨⟨_,_⟩,hw⟩,hs,_⟩,hall⟩:=h;rw[ht]at hs hall;have h1:s.data.length=1:=by
  have:(ep 3).single=true:=rfl;rw[this,du]at hs;have:(s.data.length:Int)=1:=by simpa using hs
  omega
 obtain⟨d,hd⟩:∃d,s.data=[d]:=List.length_eq_one_iff.1 h1;refine⟨d,hd,?_⟩;rw[hd]at hall;have:=av.1 hall 0 (by simp);rw[sB (d:=d) (p:=d) rfl rfl]at this;unfold mu at this;simp only[Bool.not_eq_true',Bool.or_eq_false_iff,Bool.not_eq_false']at this;have hv:=this.1;unfold dW at hv;simp only[ay]at hv;have ht:=hv.2;have e:(ep 3).text=1:=rfl;rw[e]at ht;simp only[iZ,if_true,ay]at ht;exact ht.1
theorem Use.Kz{z:aF}{q:aR}(u:Use z q)(hk:(cn z q).1.kind=3):∃s R d,(cn z q).1.sets=s::R/\s∈z.sets/\s.set.type=3/\s.set.data=[d]/\aq d.text=true:=by
 have key:∀(q' :aR) (rest:List Int),q'.type=3->(decide (atI z.sets q' >=0))=true->(cn z q).1.sets=cT z.sets [] (atI z.sets q' ::rest)-> ∃s R d,(cn z q).1.sets=s::R/\s∈z.sets/\s.set.type=3/\s.set.data=[d]/\aq d.text=true:=λq' rest ht hat hs=>by
  have hh:cJ z.sets q' =true:=by
   have:=mY z.sets q';cases hc:cJ z.sets q' with
   |true=>rfl
   |false=>rw[hc]at this;simp at this hat;omega
  obtain⟨k,s,h1,h2,h3⟩:=yq hh;have hm:=ao h2;have ht3:s.set.type=3:=by have:=congrArg Prod.snd h3;exact(show s.set.type=q'.type from this).trans ht
  obtain⟨d,hd,hv⟩:=KB (u.ord.set s hm) ht3;refine⟨s,cT z.sets ([]++[atI z.sets q']) rest,d,?_,hm,ht3,hd,hv⟩;rw[hs,cT,if_neg (by rw[h1];simp),h1];simp[h2]
 rw[u.ans]at hk key ⊢;dsimp only at hk key ⊢;unfold fZ at hk key ⊢;split at hk
 . exfalso;rename_i hr;unfold kz at hk;rw[if_pos hr]at hk;simp at hk
 rename_i hr;rw[if_neg hr]at key ⊢;split at hk
 . simp[Cu]at hk
 rename_i hd;rw[if_neg hd]at key ⊢;split at hk
 . rename_i ha;rw[if_pos ha]at key ⊢;have:decide (atI z.sets ⟨q.name,3⟩>=0)=true:=by unfold rJ at ha;simp only[ay]at ha;exact ha.1
   exact key ⟨q.name,3⟩ [] rfl this rfl
 rename_i ha;rw[if_neg ha]at key ⊢;split at hk
 . exfalso;rename_i hx;unfold lV at hk;rw[if_pos hx]at hk;simp at hk
 rename_i hx;rw[if_neg hx]at key ⊢;split at hk
 . simp[zM]at hk
 rename_i hw;rw[if_neg hw]at key ⊢;split at hk
 . rename_i hwa;rw[if_pos hwa]at key ⊢;have hs:(bZ (vw z q)).sets=z.sets:=wH _;have:decide (atI z.sets ⟨(bZ (vw z q)).dH,3⟩>=0)=true:=by unfold la at hwa;simp only[ay]at hwa;rw[hs]at hwa;exact hwa.1
   refine key ⟨(bZ (vw z q)).dH,3⟩ [jh (bZ (vw z q)).sets (bZ (vw z q)).q.name] rfl this ?_;unfold mQ;rw[hs]
 rename_i hwa;split at hk
 . exfalso;unfold mf at hk;(try split at hk) <;> simp at hk
 . exfalso;unfold ph at hk;(try split at hk) <;> simp at hk
def gP(zs:List ai):Nat->aR->List Signed->Ans×Int
 |0,_,_=>(je,33)
 |f+1,q,kept=>if (!(dD zs q).2)=true then(je,34)else if ((dD zs q).1.kind != 3)=true then(⟨(dD zs q).1.kind,kept++(dD zs q).1.sets,(dD zs q).1.cut⟩,0)
  else match (dD zs q).1.sets.head? with
   |some s=>(match s.set.data.head? with|some d=>gP zs f ⟨d.text,q.type⟩ (kept++[s])|none=>(je,0))
   |none=>(je,0)
def dA(w:az)(q:aR):Ans×Int:=if (aN w&&bK q)=false then(je,1)else gP w.zones 9 q []
theorem uh{n:Nat}:∀(l seen:List ai),dx n seen l=true-> ∀p∈l,aW p.zone=true/\0<=p.host/\p.host<(n:Int)
 |[],_,_,p,hp=>by cases hp
 |x::t,seen,h,p,hp=>by
  unfold dx at h;simp only[ay,Bool.not_eq_true',Bool.or_eq_false_iff,Bool.not_eq_false',decide_eq_false_iff_not]at h;rcases List.mem_cons.1 hp with rfl|hp
  . exact⟨h.1.2,by omega,by omega⟩
  . exact uh t _ h.2 p hp
theorem bB{w:az}(h:aN w=true):∀p∈w.zones,aW p.zone=true/\0<=p.host/\p.host<(w.hosts.length:Int):=by
 unfold aN jI at h;simp only[ay]at h;exact uh _ _ h.1.2.1.2
structure cA(w:az):Prop where
 hosts:w.hosts.length<=1000
 zones:w.zones.length<=1000
 hints:w.hints.length<=1000
 few:∀p∈w.zones,ib p.zone=true
end NP
namespace Go.Proofs.YtmaepddmaghpjaaGreatDoor
open NQ Go NP Go.RowKit
set_option maxHeartbeats 1000000 in
theorem ye(w:az)(q0:aR)(hF:cA w):NQ.Fn cx 36 [.agg (aZ w),.agg (cL q0)] (.tuple [.agg ((gR (dA w q0).1).map .d),.d (.int .i64 (dA w q0).2)]) []:=by
 refine cC (λ_=>[]) aO mixed Tryz.func36 (by kernel_rfl) rfl (ag rfl) ?_
 conv=>whnf
 (refine⟨_,_,vA w (by have:=hF.hosts;omega) (by have:=hF.zones;omega) (by have:=hF.hints;omega),?_⟩;conv=>whnf)
 have bad:∀(b:Bool),(aN w&&bK q0)=false->dA w q0=(je,1):=λ_ h=>by unfold dA;rw[if_pos h]
 repeat' (first|(refine⟨_,_,BV q0,?_⟩;conv=>whnf)|(refine ae (λh=>?_) (λh=>?_) <;> (rw[h];conv=>whnf))|fail)
 . refine af rfl ?_;rw[bad true (by simp_all)];rfl
 . refine af rfl ?_;rw[bad true (by simp_all)];rfl
 have hval:aN w=true:=by simpa using ‹(!aN w)=false›
 have hq0:bK q0=true:=by simpa using ‹(!bK q0)=false›
 have hg:mg w.zones:=λp hp=>⟨hF.few p hp,(bB hval p hp).1⟩
 have htr:dA w q0=gP w.zones 9 q0 []:=by unfold dA;rw[if_neg (by rw[hval,hq0];simp)]
 (refine⟨_,_,Jp w (by have:=hF.zones;omega),?_⟩;conv=>whnf)
 refine⟨aR×List Signed,λx=>⟨[(2,.ptr 2 0),(3,.ptr 3 0),(4,.ptr 4 0),(6,.ptr 6 0),(7,.own 7)],[(2,.box ((aZ w).map .d)),(3,.box ((cL x.1).map .d)),(4,.box [.d (.int .i64 0),.nil 5,.d (.str [])]),(6,.box ((CD w (fR w.zones)).map .d)),(7,.row 50 5 (x.2.map ax))]⟩,
  λx=>bK x.1=true/\x.2.length<=8/\gP w.zones (9-x.2.length) x.1 x.2=dA w q0,λx=>9-x.2.length,
  ⟨(q0,[]),⟨hq0,by simp,by rw[htr];rfl⟩,(aj.ni 7 7 5 50 5 rfl rfl (by decide)).trans (aj.keep ⟨ab,ab,ab,ab,ab,trivial⟩ ⟨ab,ab,ab,ab,ab,trivial⟩)⟩,λ⟨q,kept⟩ ⟨hq,hkl,hinv⟩=>?_⟩
 dsimp only at hq hkl hinv ⊢
 conv=>whnf
 obtain⟨f,hf⟩:∃f,9-kept.length=f+1:=⟨8-kept.length,by omega⟩
 rw[hf]at hinv;unfold gP at hinv
 (refine⟨_,_,Cm w q hg hq,?_⟩;conv=>whnf)
 refine ae (λh1=>?_) (λh1=>?_) <;> (rw[h1];conv=>whnf)
 . rw[if_pos h1]at hinv;refine af rfl ?_;rw[<- hinv];rfl
 rw[if_neg (by rw[h1];simp)]at hinv;have hok:(dD w.zones q).2=true:=by simpa using h1
 obtain⟨p,hpm,u,hpa,hp4⟩:=vi hg hq (x:=(dD w.zones q).1) (by rw[<- hok]);have hal:(dD w.zones q).1.sets.length<=1000:=by rw[hpa];exact GF u.few q
 refine ae (λh2=>?_) (λh2=>?_) <;> (rw[h2];conv=>whnf)
 . rw[if_pos h2]at hinv;refine⟨by(show(kept.map ax).length+((dD w.zones q).1.sets.map ax).length<=_);simp;omega,by(show((kept.map ax).length+((dD w.zones q).1.sets.map ax).length)*80<=_);simp;omega,?_⟩
   conv=>whnf
   refine af rfl ?_;rw[<- hinv];show AV.tuple _=AV.tuple _
   simp[gR];exact⟨rfl,rfl⟩
 rw[if_neg (by rw[h2];simp)]at hinv;have hk3:(cn p.zone q).1.kind=3:=by rw[<- hpa];simpa using h2
 obtain⟨s,R,d,hs,hsm,hst,hsd,hdv⟩:=u.Kz hk3;rw[<- hpa]at hs;rw[hs]at hinv;simp only[List.head?_cons,hsd]at hinv;refine ae (λh3=>?_) (λh3=>?_) <;> (rw[h3];conv=>whnf)
 . have hl8:kept.length=8:=by simp at h3;omega
   have:f=0:=by omega
   subst this;refine af rfl ?_;rw[<- hinv];rfl
 . rw[hs];refine⟨by decide,ax s,rfl,?_⟩
   conv=>whnf
   refine⟨by(show(kept.map ax).length+1<=_);simp;omega,by(show((kept.map ax).length+1)*80<=_);simp;omega,?_⟩
   conv=>whnf
   refine⟨by decide,ax s,rfl,?_⟩
   conv=>whnf
   refine⟨by decide,bz d,(by rw[hsd];rfl:(s.set.data.map bz)[(0:Int).toNat]? =some (bz d)),?_⟩
   conv=>whnf
   have hl8:kept.length<8:=by simp at h3;omega
   refine⟨(⟨d.text,q.type⟩,kept++[s]),⟨?_,by simp;omega,?_⟩,by(show 9-(kept++[s]).length<9-kept.length);simp;omega,aj.keep ⟨ab,ab,ab,ab,ab,trivial⟩ ⟨ab,ab,ab,ab,⟨?_,rfl⟩,trivial⟩⟩
   . unfold bK at hq ⊢;simp only[ay]at hq ⊢;exact⟨⟨hdv,hq.1.2⟩,hq.2⟩
   . rw[<- hinv]
     congr 1
     simp;omega
   . show some (Blk.row _ _ (kept.map ax++[ax s]) _)=_
     rw[List.map_append];rfl
end Go.Proofs.YtmaepddmaghpjaaGreatDoor
