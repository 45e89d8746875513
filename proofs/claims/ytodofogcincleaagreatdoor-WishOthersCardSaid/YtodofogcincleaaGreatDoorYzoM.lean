/-
  One text.
-/
import Derived.Test.YtodofogcincleaaGreatDoorMYka
set_option linter.all false
set_option maxRecDepth 100000
namespace NP
open NQ Go
def sK(w:aL)(apex:Bs)(hosts:List Int):Bool:=w.zones.all (λp=> !((p.zone.apex==apex)&& !hosts.contains p.host))&& !hosts.any (λn=> !w.zones.any (dS n apex))
def po(w:aL)(x:bc):Bool:= !((!(bS w.zones x.zone).2|| !(cv w.zones x.zone).2)|| !sK w x.zone x.hosts)&&(kM (bS w.zones x.zone).1 x.zone 2 (cz w x.hosts)&&kM (cv w.zones x.zone).1 x.zone 2 (cz w x.hosts))
def rA(w:aL)(x:bc):Bool:= !(!(bS w.zones x.zone).2|| !(cv w.zones x.zone).2)&&(w.zones.all (λp=> !((p.zone.apex==x.zone)&& !kM p.zone x.zone 7 [⟨[],x.key.n,x.key.alg⟩]))&&kM (cv w.zones x.zone).1 x.zone 6 [⟨[],x.key.n,x.key.alg⟩])
def SmJ(z:aD):Prop:=z.sets.length<=100000/\ ∀s k,(wfR z s k).1.data.length<=200000
end NP
namespace Go.Proofs.YtodofogcincleaaGreatDoor
open NQ Go NP Go.RowKit
noncomputable def kj:Cx:={cx with chg:=fG [(113,10),(62,10),(112,10),(117,10),(137,10),(70,10),(71,10),(200,9),(214,9),(165,9),(123,9)]}
theorem uI:aZ kj:=aV
theorem lV:kj.P.follows .mixedOrders=true:=mixed
theorem su{cx cx' :Cx}{pv:Int->Value}{f:FuncId}{args:List AV}{h:List (Nat×Blk)}{out:Option (AV×List (Nat×Blk))}(hf:FnP cx pv f args h out)(h1:cx'.P=cx.P)(h2:cx'.gl=cx.gl):FnP cx' pv f args h out:=bw h1 h2 hf
attribute [local irreducible] NQ.FnP
theorem BB(w:aL)(n:Int)(apex:Bs)(hn:w.zones.length<=100000):FnP kj pv0 200 [.d (.int .i64 n),.ptr 100003 0,.d (.ptr [.str apex])] [(100003,.box (fm w))] (some (.d (.bool (!w.zones.any (dS n apex))),[(100003,.box (fm w))])):=by
 refine aS [] (fun|1=>[33333]|_=>[]) uI lV Tryz.func200 (by kernel_rfl) rfl (ag rfl) (ag rfl) rfl ?_
 conv=>whnf
 have hC:=su (cx' :=kj) (jL w n apex hn) rfl rfl;refine⟨[100003],_,hC,⟨rfl,rfl,rfl⟩,?_⟩
 conv=>whnf
 refine az ?_
 conv=>whnf
 exact bF rfl rfl rfl
theorem Nk(w:aL)(apex:Bs)(l:List Int)(hn:w.zones.length<=100000)(hl:l.length<=1000):FnP kj pv0 214 [.d (.slice 1 (l.map cB)),.fn 200 [] [.ptr 100003 0,.d (.ptr [.str apex])]] [(100003,.box (fm w))]
 (some (.d (.int .i64 (match l.findIdx? (λn=> !w.zones.any (dS n apex))with|some k=>(k:Int)|none=> -1)),[(100003,.box (fm w))])):=by
 refine aS [] (fun|4=>[33333]|_=>[]) uI lV Tryz.func214 (by kernel_rfl) rfl (ag rfl) (ag rfl) rfl ?_
 conv=>whnf
 refine⟨Nat,λk=>⟨[(0,.d (.slice 1 (l.map cB))),(1,.fn 200 [] [.ptr 100003 0,.d (.ptr [.str apex])]),(7,.d (.int .i64 ((l.map cB).length:Int))),(8,.d (.int .i64 k))],[(100003,.box (fm w))]⟩,λk=>k<=l.length/\ ∀j y,j<k->l[j]? =some y->(!w.zones.any (dS y apex))=false,λk=>l.length-k,
  ⟨0,⟨by omega,λj y h=>by omega⟩,ah.keep ⟨ae,ae,ae,ae,trivial⟩⟩,λk hk=>?_⟩
 obtain⟨hk,hall⟩:=hk
 conv=>whnf
 refine af (λh1=>?_) (λh1=>?_) <;> (rw[h1];conv=>whnf)
 . have hlt:k<l.length:=by simp at h1;omega
   obtain⟨s,hs⟩:∃s,l[k]? =some s:=⟨_,ai hlt⟩
   refine⟨aw k,cB s,aB hs,?_⟩
   conv=>whnf
   refine⟨[],_,BB w s apex hn,⟨rfl,rfl,rfl⟩,?_⟩
   conv=>whnf
   refine az ?_
   conv=>whnf
   refine af (λh2=>?_) (λh2=>?_) <;> (rw[h2];conv=>whnf)
   . have:l.findIdx? (λn=> !w.zones.any (dS n apex))=some k:=by
      rw[List.findIdx?_eq_some_iff_getElem];obtain⟨g1,g2⟩:=aq.1 hs;refine⟨g1,by rw[g2];exact h2,λj hj=>?_⟩;have:=hall j (l[j]) hj (ai (by omega));rw[this];decide
     rw[this];exact bF rfl rfl rfl
   . refine⟨k+1,⟨hlt,λj y hj hy=>?_⟩,by(show l.length-(k+1)<l.length-k;omega),ah.keep ⟨ae,ae,ae,⟨ao (by omega),rfl⟩,trivial⟩⟩;rcases Nat.lt_succ_iff_lt_or_eq.1 hj with hj|rfl
     . exact hall j y hj hy
     . rw[hs]at hy;cases hy;exact h2
 . obtain rfl:k=l.length:=by simp at h1;omega
   have:l.findIdx? (λn=> !w.zones.any (dS n apex))=none:=by
    rw[List.findIdx?_eq_none_iff];intro x hx;obtain⟨i,hi⟩:=ck hx;exact hall i x (aq.1 hi).1 hi
   rw[this];exact bF rfl rfl rfl
theorem Mk(w:aL)(apex:Bs)(l:List Int)(hn:w.zones.length<=100000)(hl:l.length<=1000):FnP kj pv0 165 [.d (.slice 1 (l.map cB)),.fn 200 [] [.ptr 100003 0,.d (.ptr [.str apex])]] [(100003,.box (fm w))]
 (some (.d (.bool (l.any λn=> !w.zones.any (dS n apex))),[(100003,.box (fm w))])):=by
 refine aS [] (fun|1=>[33333]|_=>[]) uI lV Tryz.func165 (by kernel_rfl) rfl (ag rfl) (ag rfl) rfl ?_;have he:∀i:Option Nat,i=l.findIdx? (λn=> !w.zones.any (dS n apex))->decide ((match i with|some k=>(k:Int)|none=> -1)>=0)=l.any λn=> !w.zones.any (dS n apex):=by
  rintro i rfl;cases hi:l.findIdx? (λn=> !w.zones.any (dS n apex))with
  |none =>
   have:=List.findIdx?_eq_none_iff.1 hi
   symm
   rw[show decide ((-1:Int)>=0)=false from rfl,List.any_eq_false];intro x hx;rw[this x hx];decide
  |some k =>
   obtain⟨hk,hp,_⟩:=List.findIdx?_eq_some_iff_getElem.1 hi
   symm
   rw[show decide ((k:Int)>=0)=true by simp,List.any_eq_true];exact⟨_,List.getElem_mem hk,hp⟩
 conv=>whnf
 refine⟨[],_,Nk w apex l hn hl,⟨rfl,rfl,rfl⟩,?_⟩
 conv=>whnf
 refine az ?_;have he:=he _ rfl;generalize l.findIdx? (λn=> !w.zones.any (dS n apex))=i at he ⊢
 conv=>whnf
 exact bF rfl (by rw[<- he];rfl) rfl
theorem Ec(w:aL)(apex:Bs)(l:List Int)(hn:w.zones.length<=1000)(hl:l.length<=1000):FnP kj pv0 137 [.agg (fm w),.d (.str apex),.d (.slice 1 (l.map cB))] [] (some (.d (.bool (sK w apex l)),[])):=by
 refine aS [100003] (fun|0=>[33333]|7=>[33333,55555]|_=>[]) uI lV Tryz.func137 (by kernel_rfl) rfl (ag rfl) (ag rfl) rfl ?_
 conv=>whnf
 refine⟨Nat,λk=>⟨[(2,.d (.slice 1 (l.map cB))),(3,.ptr 3 0),(4,.ptr 4 0),(11,.d (.slice 3 (w.zones.map aA))),(12,.d (.int .i64 ((w.zones.map aA).length:Int))),(13,.d (.int .i64 k))],[(3,.box (fm w)),(4,.box [.d (.str apex)])]⟩,λk=>k<=w.zones.length/\(w.zones.take k).all (λp=> !((p.zone.apex==apex)&& !l.contains p.host))=true,λk=>w.zones.length-k,
  ⟨0,⟨Nat.zero_le _,rfl⟩,ah.keep⟩,?_⟩
 rintro k ⟨hk,hall⟩
 conv=>whnf
 refine af (λh1=>?_) (λh1=>?_) <;> (rw[h1];conv=>whnf)
 . have hlt:k<w.zones.length:=by simp at h1;omega
   obtain⟨p,hp⟩:∃p,w.zones[k]? =some p:=⟨_,ai hlt⟩
   refine⟨aw k,aA p,aB hp,?_⟩
   conv=>whnf
   have hnext:(w.zones.take (k+1)).all (λp=> !((p.zone.apex==apex)&& !l.contains p.host))= !((p.zone.apex==apex)&& !l.contains p.host):=by
    rw[bK hp,List.all_append,hall];simp
   have hbad:(!((p.zone.apex==apex)&& !l.contains p.host))=false->sK w apex l=false:=λh=>by
    unfold sK;have:w.zones.all (λp=> !((p.zone.apex==apex)&& !l.contains p.host))=false:=by
     rw[List.all_eq_false];exact⟨p,au hp,by rw[h];decide⟩
    rw[this];rfl
   repeat' (first|(refine⟨_,_,jI l p.host (by omega),?_⟩;conv=>whnf)|(refine af (λh=>?_) (λh=>?_) <;> (rw[h];conv=>whnf))|fail)
   all_goals first
    |exact bF rfl (by rw[hbad (by simp only[*, if_true,if_false,aI])];rfl) rfl
    |exact⟨k+1,⟨hlt,by rw[hnext];simp only[*, if_true,if_false,aI]⟩,by(show w.zones.length-(k+1)<w.zones.length-k;omega),ah.keep ⟨ae,ae,ae,ae,ae,⟨ao (k:=k) (by omega),rfl⟩,trivial⟩⟩
 . obtain rfl:k=w.zones.length:=by simp at h1;omega
   rw[List.take_length]at hall;have hs:sK w apex l= !(l.any λn=> !w.zones.any (dS n apex)):=by unfold sK;rw[hall];rfl
   rw[hs];refine⟨_,ah.trans (ah.qL [4]) (ah.trans (ah.name 3 100003 rfl rfl) (ah.keep (sl:=[(2,.d (.slice 1 (l.map cB))),(3,.ptr 100003 0),(4,.d (.ptr [.str apex]))]) (h:=[(100003,.box (fm w))]))),?_⟩
   conv=>whnf
   refine⟨[],_,Mk w apex l (by omega) hl,⟨rfl,rfl,rfl⟩,?_⟩
   conv=>whnf
   refine az ?_
   conv=>whnf
   exact gF rfl rfl rfl
set_option maxHeartbeats 4000000 in
theorem KW(w:aL)(x:bc)(hv:∀p∈w.zones,aR p.zone=true)(hn:w.zones.length<=1000)(hl:x.hosts.length<=1000)(hh:∀n∈x.hosts,bn w n=true)(h1:SmJ (bS w.zones x.zone).1)(h2:SmJ (cv w.zones x.zone).1):FnP kj pv0 70 [.agg (fm w),.agg ((aT x).map .d)] [] (some (.d (.bool (po w x)),[])):=by
 refine aS [] (fun|0=>[33333]|1=>[33333]|2=>[33333]|3=>[33333,55555]|5=>[33333,55555]|6=>[55555]|_=>[]) uI lV Tryz.func70 (by kernel_rfl) rfl (ag rfl) (ag rfl) rfl ?_
 conv=>whnf
 have hC:=su (cx' :=kj) (gZ w x.zone hv (by omega)) rfl rfl;have hA:=su (cx' :=kj) (pP w x.zone hv (by omega)) rfl rfl;have hS:=su (cx' :=kj) (qU w x.hosts hl hh) rfl rfl;have hB:=Ec w x.zone x.hosts hn hl;have hr:∃r,r=po w x:=⟨_,rfl⟩
 obtain⟨r,hr⟩:=hr;rw[<- hr];unfold po at hr;generalize bS w.zones x.zone=c at hC hr h1;generalize cv w.zones x.zone=ab at hA hr h2;generalize cz w x.hosts=sv at hS hr;generalize sK w x.zone x.hosts=sb at hB hr;obtain⟨c,c2⟩:=c;obtain⟨ab,a2⟩:=ab;dsimp only at hC hA hr h1 h2;have hJ:=qe c x.zone 2 sv h1.1 (h1.2 _ _);have hK:=qe ab x.zone 2 sv h2.1 (h2.2 _ _);refine⟨[2,3],_,hC,⟨rfl,rfl,rfl⟩,?_⟩
 conv=>whnf
 refine az ?_
 conv=>whnf
 refine⟨[2,3,5],_,hA,⟨rfl,rfl,rfl⟩,?_⟩
 conv=>whnf
 refine az ?_
 conv=>whnf
 refine⟨_,ah.keep (sl:=[(2,.ptr 2 0),(3,.ptr 3 0),(5,.ptr 5 0),(6,.d (.bool c2)),(7,.ptr 7 0),(8,.d (.bool a2))]) (h:=[(2,.box (fm w)),(3,.box ((aT x).map .d)),(5,.box ((aH c).map .d)),(7,.box ((aH ab).map .d))]),?_⟩
 conv=>whnf
 cases c2 with
 |false =>
  conv=>whnf
  exact bF rfl (by rw[hr];rfl) rfl trivial
 |true =>
 conv=>whnf
 cases a2 with
 |false =>
  conv=>whnf
  exact bF rfl (by rw[hr];rfl) rfl trivial
 |true =>
 conv=>whnf
 refine⟨[2,3,5,7],_,hB,⟨rfl,rfl,rfl⟩,?_⟩
 conv=>whnf
 refine az ?_
 conv=>whnf
 cases sb with
 |false =>
  conv=>whnf
  exact bF rfl (by rw[hr];rfl) rfl trivial
 |true =>
 conv=>whnf
 refine⟨_,ah.keep (sl:=[(2,.ptr 2 0),(3,.ptr 3 0),(5,.ptr 5 0),(7,.ptr 7 0)]) (h:=[(2,.box (fm w)),(3,.box ((aT x).map .d)),(5,.box ((aH c).map .d)),(7,.box ((aH ab).map .d))]),?_⟩
 conv=>whnf
 refine⟨[2,3,5,7],_,hS,⟨rfl,rfl,rfl⟩,?_⟩
 conv=>whnf
 refine az ?_
 conv=>whnf
 refine⟨_,ah.keep (sl:=[(3,.ptr 3 0),(5,.ptr 5 0),(7,.ptr 7 0),(9,.d (.slice 3 (sv.map aG)))]) (h:=[(3,.box ((aT x).map .d)),(5,.box ((aH c).map .d)),(7,.box ((aH ab).map .d))]),?_⟩
 conv=>whnf
 (refine⟨_,_,hJ,?_⟩;conv=>whnf)
 generalize kM c x.zone 2 sv=j1 at hr ⊢
 cases j1 with
 |false =>
  conv=>whnf
  exact bF rfl (by rw[hr];rfl) rfl trivial
 |true =>
 conv=>whnf
 (refine⟨_,_,hK,?_⟩;conv=>whnf)
 exact bF rfl (by rw[hr];rfl) rfl trivial
set_option maxHeartbeats 4000000 in
theorem KG(w:aL)(x:bc)(hv:∀p∈w.zones,aR p.zone=true)(hn:w.zones.length<=1000)(h0:∀p∈w.zones,SmJ p.zone)(h2:SmJ (cv w.zones x.zone).1):FnP kj pv0 71 [.agg (fm w),.agg ((aT x).map .d)] [] (some (.d (.bool (rA w x)),[])):=by
 refine aS [] (fun|0=>[33333]|1=>[33333]|2=>[33333]|3=>[55555]|5=>[33333,55555]|12=>[55555]|_=>[]) uI lV Tryz.func71 (by kernel_rfl) rfl (ag rfl) (ag rfl) rfl ?_
 conv=>whnf
 have hC:=su (cx' :=kj) (gZ w x.zone hv (by omega)) rfl rfl;have hA:=su (cx' :=kj) (pP w x.zone hv (by omega)) rfl rfl;have hK:=su (cx' :=kj) (nn x.key) rfl rfl;have hr:∃r,r=rA w x:=⟨_,rfl⟩
 obtain⟨r,hr⟩:=hr;rw[<- hr];unfold rA at hr;generalize bS w.zones x.zone=c at hC hr;generalize cv w.zones x.zone=ab at hA hr h2;obtain⟨c,c2⟩:=c;obtain⟨ab,a2⟩:=ab;dsimp only at hC hA hr h2;refine⟨[2,3],_,hA,⟨rfl,rfl,rfl⟩,?_⟩
 conv=>whnf
 refine az ?_
 conv=>whnf
 refine⟨[2,3,5],_,hC,⟨rfl,rfl,rfl⟩,?_⟩
 conv=>whnf
 refine az ?_
 conv=>whnf
 refine⟨_,ah.keep (sl:=[(2,.ptr 2 0),(3,.ptr 3 0),(5,.ptr 5 0),(6,.d (.bool a2)),(8,.d (.bool c2))]) (h:=[(2,.box (fm w)),(3,.box ((aT x).map .d)),(5,.box ((aH ab).map .d))]),?_⟩
 conv=>whnf
 cases c2 with
 |false =>
  conv=>whnf
  exact bF rfl (by rw[hr];rfl) rfl trivial
 |true =>
 conv=>whnf
 cases a2 with
 |false =>
  conv=>whnf
  exact bF rfl (by rw[hr];rfl) rfl trivial
 |true =>
 conv=>whnf
 refine⟨_,ah.keep (sl:=[(2,.ptr 2 0),(3,.ptr 3 0),(5,.ptr 5 0)]) (h:=[(2,.box (fm w)),(3,.box ((aT x).map .d)),(5,.box ((aH ab).map .d))]),?_⟩
 conv=>whnf
 refine⟨[2,3,5],_,hK,⟨rfl,rfl,rfl⟩,?_⟩
 conv=>whnf
 refine az ?_
 conv=>whnf
 generalize hkd:([⟨[],x.key.n,x.key.alg⟩]:List Datum)=kd at hr
 have hkd' :[aG ⟨[],x.key.n,x.key.alg⟩]=kd.map aG:=by rw[<- hkd];rfl
 refine⟨Nat,λk=>⟨[(3,.ptr 3 0),(5,.ptr 5 0),(9,.d (.slice 3 (kd.map aG))),(37,.d (.slice 3 (w.zones.map aA))),(38,.d (.int .i64 ((w.zones.map aA).length:Int))),(39,.d (.int .i64 k))],[(3,.box ((aT x).map .d)),(5,.box ((aH ab).map .d))]⟩,λk=>k<=w.zones.length/\(w.zones.take k).all (λp=> !((p.zone.apex==x.zone)&& !kM p.zone x.zone 7 kd))=true,λk=>w.zones.length-k,
  ⟨0,⟨Nat.zero_le _,rfl⟩,ah.keep ⟨ae,ae,⟨by rw[<- hkd'];rfl,rfl⟩,ae,ae,ae,trivial⟩⟩,?_⟩
 rintro k ⟨hk,hall⟩
 conv=>whnf
 refine af (λh1=>?_) (λh1=>?_) <;> (rw[h1];conv=>whnf)
 . have hlt:k<w.zones.length:=by simp at h1;omega
   obtain⟨p,hp⟩:∃p,w.zones[k]? =some p:=⟨_,ai hlt⟩
   refine⟨aw k,aA p,aB hp,?_⟩
   conv=>whnf
   have hnext:(w.zones.take (k+1)).all (λp=> !((p.zone.apex==x.zone)&& !kM p.zone x.zone 7 kd))= !((p.zone.apex==x.zone)&& !kM p.zone x.zone 7 kd):=by
    rw[bK hp,List.all_append,hall];simp
   have hbad:(!((p.zone.apex==x.zone)&& !kM p.zone x.zone 7 kd))=false->r=false:=λh=>by
    have:w.zones.all (λp=> !((p.zone.apex==x.zone)&& !kM p.zone x.zone 7 kd))=false:=by
     rw[List.all_eq_false];exact⟨p,au hp,by rw[h];decide⟩
    rw[hr,this];rfl
   have hp0:=h0 p (au hp)
   repeat' (first|(refine⟨_,_,qe p.zone x.zone 7 kd hp0.1 (hp0.2 _ _),?_⟩;conv=>whnf)|(refine af (λh=>?_) (λh=>?_) <;> (rw[h];conv=>whnf))|fail)
   all_goals first
    |exact bF rfl (by rw[hbad (by simp only[*, if_true,if_false,aI])];rfl) rfl
    |exact⟨k+1,⟨hlt,by rw[hnext];simp only[*, if_true,if_false,aI]⟩,by(show w.zones.length-(k+1)<w.zones.length-k;omega),ah.keep ⟨ae,ae,ae,ae,ae,⟨ao (k:=k) (by omega),rfl⟩,trivial⟩⟩
 . obtain rfl:k=w.zones.length:=by simp at h1;omega
   rw[List.take_length]at hall;refine⟨_,ah.keep (sl:=[(3,.ptr 3 0),(5,.ptr 5 0),(9,.d (.slice 3 (kd.map aG)))]) (h:=[(3,.box ((aT x).map .d)),(5,.box ((aH ab).map .d))]),?_⟩
   conv=>whnf
   (refine⟨_,_,qe ab x.zone 6 kd h2.1 (h2.2 _ _),?_⟩;conv=>whnf)
   exact bF rfl (by rw[hr,hall];rfl) rfl trivial
set_option maxHeartbeats 4000000 in
theorem AE(w:aL)(x:bc)(hF:tg w)(hvw:eG w=true)(hk:x.kind=1)(hhr:fw w x.hosts=true)(hh:∀n∈x.hosts,bn w n=true)(hl:x.hosts.length<=1000)(h1:SmJ (bS w.zones x.zone).1)(h2:SmJ (cv w.zones x.zone).1):FnP kj pv0 31 [.agg ((bt w).map .d),.agg ((aT x).map .d)] [] (some (.tuple [.d (.bool (po w x)),.d (.int .i64 0)],[])):=by
 refine aS [] (fun|10=>[33333]|_=>[]) uI lV Tryz.func31 (by kernel_rfl) rfl (ag rfl) (ag rfl) rfl ?_;have hM:=KW w x (λp hp=>(gH hvw p hp).1) hF.zones hl hh h1 h2;have hV:=uK w hF;have hR:=uf w x.hosts;rw[hvw]at hV;rw[hhr]at hR;generalize po w x=r at hM ⊢;obtain⟨kind,zone,name,hosts,key⟩:=x;dsimp only at hk;subst hk
 conv=>whnf
 (refine⟨_,_,hV,?_⟩;conv=>whnf)
 (refine⟨_,_,hR,?_⟩;conv=>whnf)
 refine⟨[2,3,6],_,hM,⟨rfl,rfl,rfl⟩,?_⟩
 conv=>whnf
 refine az ?_
 conv=>whnf
 exact bF rfl rfl rfl trivial
set_option maxHeartbeats 4000000 in
theorem Ki(w:aL)(x:bc)(hF:tg w)(hvw:eG w=true)(hk:x.kind=2)(h1:∀p∈w.zones,SmJ p.zone)(h2:SmJ (cv w.zones x.zone).1):FnP kj pv0 31 [.agg ((bt w).map .d),.agg ((aT x).map .d)] [] (some (.tuple [.d (.bool (rA w x)),.d (.int .i64 0)],[])):=by
 refine aS [] (fun|12=>[33333]|_=>[]) uI lV Tryz.func31 (by kernel_rfl) rfl (ag rfl) (ag rfl) rfl ?_;have hM:=KG w x (λp hp=>(gH hvw p hp).1) hF.zones h1 h2;have hV:=uK w hF;rw[hvw]at hV;generalize rA w x=r at hM ⊢;obtain⟨kind,zone,name,hosts,key⟩:=x;dsimp only at hk;subst hk
 conv=>whnf
 (refine⟨_,_,hV,?_⟩;conv=>whnf)
 refine⟨[2,3,6],_,hM,⟨rfl,rfl,rfl⟩,?_⟩
 conv=>whnf
 refine az ?_
 conv=>whnf
 exact bF rfl rfl rfl trivial
end Go.Proofs.YtodofogcincleaaGreatDoor
