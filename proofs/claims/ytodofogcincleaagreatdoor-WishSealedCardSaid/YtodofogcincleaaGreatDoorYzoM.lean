/-
  One text.
-/
import Derived.Test.YtodofogcincleaaGreatDoorMYka
set_option linter.all false
set_option maxRecDepth 100000
namespace NP
open NQ Go
def tx(w:aL)(apex:Bs)(hosts:List Int):Bool:=w.zones.all (λp=> !((p.zone.apex==apex)&& !hosts.contains p.host))&& !hosts.any (λn=> !w.zones.any (dY n apex))
def pZ(w:aL)(x:aY):Bool:= !((!(bz w.zones x.zone).2|| !(cB w.zones x.zone).2)|| !tx w x.zone x.hosts)&&(lr (bz w.zones x.zone).1 x.zone 2 (cy w x.hosts)&&lr (cB w.zones x.zone).1 x.zone 2 (cy w x.hosts))
def rZ(w:aL)(x:aY):Bool:= !(!(bz w.zones x.zone).2|| !(cB w.zones x.zone).2)&&(w.zones.all (λp=> !((p.zone.apex==x.zone)&& !lr p.zone x.zone 7 [⟨[],x.key.n,x.key.alg⟩]))&&lr (cB w.zones x.zone).1 x.zone 6 [⟨[],x.key.n,x.key.alg⟩])
def SmJ(z:aB):Prop:=z.sets.length<=100000/\ ∀s k,(wfR z s k).1.data.length<=200000
end NP
namespace Go.Proofs.YtodofogcincleaaGreatDoor
open NQ Go NP Go.RowKit
noncomputable def kJ:Cx:={cx with chg:=fY [(113,10),(62,10),(112,10),(117,10),(137,10),(70,10),(71,10),(200,9),(214,9),(165,9),(123,9)]}
theorem vk:ba kJ:=aV
theorem mH:kJ.P.follows .mixedOrders=true:=mixed
theorem sX{cx cx' :Cx}{pv:Int->Value}{f:FuncId}{args:List AV}{h:List (Nat×Blk)}{out:Option (AV×List (Nat×Blk))}(hf:FnP cx pv f args h out)(h1:cx'.P=cx.P)(h2:cx'.gl=cx.gl):FnP cx' pv f args h out:=bx h1 h2 hf
attribute [local irreducible] NQ.FnP
theorem Cf(w:aL)(n:Int)(apex:Bs)(hn:w.zones.length<=100000):FnP kJ pv0 200 [.d (.int .i64 n),.ptr 100003 0,.d (.ptr [.str apex])] [(100003,.box (fE w))] (some (.d (.bool (!w.zones.any (dY n apex))),[(100003,.box (fE w))])):=by
 refine aT [] (fun|1=>[33333]|_=>[]) vk mH Tryz.func200 (by kernel_rfl) rfl (ag rfl) (ag rfl) rfl ?_
 conv=>whnf
 have hC:=sX (cx' :=kJ) (ka w n apex hn) rfl rfl;refine⟨[100003],_,hC,⟨rfl,rfl,rfl⟩,?_⟩
 conv=>whnf
 refine aA ?_
 conv=>whnf
 exact bF rfl rfl rfl
theorem NU(w:aL)(apex:Bs)(l:List Int)(hn:w.zones.length<=100000)(hl:l.length<=1000):FnP kJ pv0 214 [.d (.slice 1 (l.map cK)),.fn 200 [] [.ptr 100003 0,.d (.ptr [.str apex])]] [(100003,.box (fE w))]
 (some (.d (.int .i64 (match l.findIdx? (λn=> !w.zones.any (dY n apex))with|some k=>(k:Int)|none=> -1)),[(100003,.box (fE w))])):=by
 refine aT [] (fun|4=>[33333]|_=>[]) vk mH Tryz.func214 (by kernel_rfl) rfl (ag rfl) (ag rfl) rfl ?_
 conv=>whnf
 refine⟨Nat,λk=>⟨[(0,.d (.slice 1 (l.map cK))),(1,.fn 200 [] [.ptr 100003 0,.d (.ptr [.str apex])]),(7,.d (.int .i64 ((l.map cK).length:Int))),(8,.d (.int .i64 k))],[(100003,.box (fE w))]⟩,λk=>k<=l.length/\ ∀j y,j<k->l[j]? =some y->(!w.zones.any (dY y apex))=false,λk=>l.length-k,
  ⟨0,⟨by omega,λj y h=>by omega⟩,ah.keep ⟨ae,ae,ae,ae,trivial⟩⟩,λk hk=>?_⟩
 obtain⟨hk,hall⟩:=hk
 conv=>whnf
 refine af (λh1=>?_) (λh1=>?_) <;> (rw[h1];conv=>whnf)
 . have hlt:k<l.length:=by simp at h1;omega
   obtain⟨s,hs⟩:∃s,l[k]? =some s:=⟨_,aj hlt⟩
   refine⟨aw k,cK s,aD hs,?_⟩
   conv=>whnf
   refine⟨[],_,Cf w s apex hn,⟨rfl,rfl,rfl⟩,?_⟩
   conv=>whnf
   refine aA ?_
   conv=>whnf
   refine af (λh2=>?_) (λh2=>?_) <;> (rw[h2];conv=>whnf)
   . have:l.findIdx? (λn=> !w.zones.any (dY n apex))=some k:=by
      rw[List.findIdx?_eq_some_iff_getElem];obtain⟨g1,g2⟩:=aq.1 hs;refine⟨g1,by rw[g2];exact h2,λj hj=>?_⟩;have:=hall j (l[j]) hj (aj (by omega));rw[this];decide
     rw[this];exact bF rfl rfl rfl
   . refine⟨k+1,⟨hlt,λj y hj hy=>?_⟩,by(show l.length-(k+1)<l.length-k;omega),ah.keep ⟨ae,ae,ae,⟨an (by omega),rfl⟩,trivial⟩⟩;rcases Nat.lt_succ_iff_lt_or_eq.1 hj with hj|rfl
     . exact hall j y hj hy
     . rw[hs]at hy;cases hy;exact h2
 . obtain rfl:k=l.length:=by simp at h1;omega
   have:l.findIdx? (λn=> !w.zones.any (dY n apex))=none:=by
    rw[List.findIdx?_eq_none_iff];intro x hx;obtain⟨i,hi⟩:=cd hx;exact hall i x (aq.1 hi).1 hi
   rw[this];exact bF rfl rfl rfl
theorem MP(w:aL)(apex:Bs)(l:List Int)(hn:w.zones.length<=100000)(hl:l.length<=1000):FnP kJ pv0 165 [.d (.slice 1 (l.map cK)),.fn 200 [] [.ptr 100003 0,.d (.ptr [.str apex])]] [(100003,.box (fE w))]
 (some (.d (.bool (l.any λn=> !w.zones.any (dY n apex))),[(100003,.box (fE w))])):=by
 refine aT [] (fun|1=>[33333]|_=>[]) vk mH Tryz.func165 (by kernel_rfl) rfl (ag rfl) (ag rfl) rfl ?_;have he:∀i:Option Nat,i=l.findIdx? (λn=> !w.zones.any (dY n apex))->decide ((match i with|some k=>(k:Int)|none=> -1)>=0)=l.any λn=> !w.zones.any (dY n apex):=by
  rintro i rfl;cases hi:l.findIdx? (λn=> !w.zones.any (dY n apex))with
  |none =>
   have:=List.findIdx?_eq_none_iff.1 hi
   symm
   rw[show decide ((-1:Int)>=0)=false from rfl,List.any_eq_false];intro x hx;rw[this x hx];decide
  |some k =>
   obtain⟨hk,hp,_⟩:=List.findIdx?_eq_some_iff_getElem.1 hi
   symm
   rw[show decide ((k:Int)>=0)=true by simp,List.any_eq_true];exact⟨_,List.getElem_mem hk,hp⟩
 conv=>whnf
 refine⟨[],_,NU w apex l hn hl,⟨rfl,rfl,rfl⟩,?_⟩
 conv=>whnf
 refine aA ?_;have he:=he _ rfl;generalize l.findIdx? (λn=> !w.zones.any (dY n apex))=i at he ⊢
 conv=>whnf
 exact bF rfl (by rw[<- he];rfl) rfl
theorem EJ(w:aL)(apex:Bs)(l:List Int)(hn:w.zones.length<=1000)(hl:l.length<=1000):FnP kJ pv0 137 [.agg (fE w),.d (.str apex),.d (.slice 1 (l.map cK))] [] (some (.d (.bool (tx w apex l)),[])):=by
 refine aT [100003] (fun|0=>[33333]|7=>[33333,55555]|_=>[]) vk mH Tryz.func137 (by kernel_rfl) rfl (ag rfl) (ag rfl) rfl ?_
 conv=>whnf
 refine⟨Nat,λk=>⟨[(2,.d (.slice 1 (l.map cK))),(3,.ptr 3 0),(4,.ptr 4 0),(11,.d (.slice 3 (w.zones.map aC))),(12,.d (.int .i64 ((w.zones.map aC).length:Int))),(13,.d (.int .i64 k))],[(3,.box (fE w)),(4,.box [.d (.str apex)])]⟩,λk=>k<=w.zones.length/\(w.zones.take k).all (λp=> !((p.zone.apex==apex)&& !l.contains p.host))=true,λk=>w.zones.length-k,
  ⟨0,⟨Nat.zero_le _,rfl⟩,ah.keep⟩,?_⟩
 rintro k ⟨hk,hall⟩
 conv=>whnf
 refine af (λh1=>?_) (λh1=>?_) <;> (rw[h1];conv=>whnf)
 . have hlt:k<w.zones.length:=by simp at h1;omega
   obtain⟨p,hp⟩:∃p,w.zones[k]? =some p:=⟨_,aj hlt⟩
   refine⟨aw k,aC p,aD hp,?_⟩
   conv=>whnf
   have hnext:(w.zones.take (k+1)).all (λp=> !((p.zone.apex==apex)&& !l.contains p.host))= !((p.zone.apex==apex)&& !l.contains p.host):=by
    rw[bU hp,List.all_append,hall];simp
   have hbad:(!((p.zone.apex==apex)&& !l.contains p.host))=false->tx w apex l=false:=λh=>by
    unfold tx;have:w.zones.all (λp=> !((p.zone.apex==apex)&& !l.contains p.host))=false:=by
     rw[List.all_eq_false];exact⟨p,ar hp,by rw[h];decide⟩
    rw[this];rfl
   repeat' (first|(refine⟨_,_,jX l p.host (by omega),?_⟩;conv=>whnf)|(refine af (λh=>?_) (λh=>?_) <;> (rw[h];conv=>whnf))|fail)
   all_goals first
    |exact bF rfl (by rw[hbad (by simp only[*, if_true,if_false,aK])];rfl) rfl
    |exact⟨k+1,⟨hlt,by rw[hnext];simp only[*, if_true,if_false,aK]⟩,by(show w.zones.length-(k+1)<w.zones.length-k;omega),ah.keep ⟨ae,ae,ae,ae,ae,⟨an (k:=k) (by omega),rfl⟩,trivial⟩⟩
 . obtain rfl:k=w.zones.length:=by simp at h1;omega
   rw[List.take_length]at hall;have hs:tx w apex l= !(l.any λn=> !w.zones.any (dY n apex)):=by unfold tx;rw[hall];rfl
   rw[hs];refine⟨_,ah.trans (ah.rq [4]) (ah.trans (ah.name 3 100003 rfl rfl) (ah.keep (sl:=[(2,.d (.slice 1 (l.map cK))),(3,.ptr 100003 0),(4,.d (.ptr [.str apex]))]) (h:=[(100003,.box (fE w))]))),?_⟩
   conv=>whnf
   refine⟨[],_,MP w apex l (by omega) hl,⟨rfl,rfl,rfl⟩,?_⟩
   conv=>whnf
   refine aA ?_
   conv=>whnf
   exact gW rfl rfl rfl
set_option maxHeartbeats 4000000 in
theorem LK(w:aL)(x:aY)(hv:∀p∈w.zones,aR p.zone=true)(hn:w.zones.length<=1000)(hl:x.hosts.length<=1000)(hh:∀n∈x.hosts,bk w n=true)(h1:SmJ (bz w.zones x.zone).1)(h2:SmJ (cB w.zones x.zone).1):FnP kJ pv0 70 [.agg (fE w),.agg ((aS x).map .d)] [] (some (.d (.bool (pZ w x)),[])):=by
 refine aT [] (fun|0=>[33333]|1=>[33333]|2=>[33333]|3=>[33333,55555]|5=>[33333,55555]|6=>[55555]|_=>[]) vk mH Tryz.func70 (by kernel_rfl) rfl (ag rfl) (ag rfl) rfl ?_
 conv=>whnf
 have hC:=sX (cx' :=kJ) (iz w x.zone hv (by omega)) rfl rfl;have hA:=sX (cx' :=kJ) (qu w x.zone hv (by omega)) rfl rfl;have hS:=sX (cx' :=kJ) (rE w x.hosts hl hh) rfl rfl;have hB:=EJ w x.zone x.hosts hn hl;have hr:∃r,r=pZ w x:=⟨_,rfl⟩
 obtain⟨r,hr⟩:=hr;rw[<- hr];unfold pZ at hr;generalize bz w.zones x.zone=c at hC hr h1;generalize cB w.zones x.zone=ab at hA hr h2;generalize cy w x.hosts=sv at hS hr;generalize tx w x.zone x.hosts=sb at hB hr;obtain⟨c,c2⟩:=c;obtain⟨ab,a2⟩:=ab;dsimp only at hC hA hr h1 h2;have hJ:=qJ c x.zone 2 sv h1.1 (h1.2 _ _);have hK:=qJ ab x.zone 2 sv h2.1 (h2.2 _ _);refine⟨[2,3],_,hC,⟨rfl,rfl,rfl⟩,?_⟩
 conv=>whnf
 refine aA ?_
 conv=>whnf
 refine⟨[2,3,5],_,hA,⟨rfl,rfl,rfl⟩,?_⟩
 conv=>whnf
 refine aA ?_
 conv=>whnf
 refine⟨_,ah.keep (sl:=[(2,.ptr 2 0),(3,.ptr 3 0),(5,.ptr 5 0),(6,.d (.bool c2)),(7,.ptr 7 0),(8,.d (.bool a2))]) (h:=[(2,.box (fE w)),(3,.box ((aS x).map .d)),(5,.box ((aG c).map .d)),(7,.box ((aG ab).map .d))]),?_⟩
 conv=>whnf
 cases c2 with
 |false =>
  conv=>whnf
  exact bF rfl (by rw[hr];rfl) rfl trivial
 |true =>
 conv=>whnf
 cases a2 with
 |false =>
  conv=>whnf
  exact bF rfl (by rw[hr];rfl) rfl trivial
 |true =>
 conv=>whnf
 refine⟨[2,3,5,7],_,hB,⟨rfl,rfl,rfl⟩,?_⟩
 conv=>whnf
 refine aA ?_
 conv=>whnf
 cases sb with
 |false =>
  conv=>whnf
  exact bF rfl (by rw[hr];rfl) rfl trivial
 |true =>
 conv=>whnf
 refine⟨_,ah.keep (sl:=[(2,.ptr 2 0),(3,.ptr 3 0),(5,.ptr 5 0),(7,.ptr 7 0)]) (h:=[(2,.box (fE w)),(3,.box ((aS x).map .d)),(5,.box ((aG c).map .d)),(7,.box ((aG ab).map .d))]),?_⟩
 conv=>whnf
 refine⟨[2,3,5,7],_,hS,⟨rfl,rfl,rfl⟩,?_⟩
 conv=>whnf
 refine aA ?_
 conv=>whnf
 refine⟨_,ah.keep (sl:=[(3,.ptr 3 0),(5,.ptr 5 0),(7,.ptr 7 0),(9,.d (.slice 3 (sv.map aI)))]) (h:=[(3,.box ((aS x).map .d)),(5,.box ((aG c).map .d)),(7,.box ((aG ab).map .d))]),?_⟩
 conv=>whnf
 (refine⟨_,_,hJ,?_⟩;conv=>whnf)
 generalize lr c x.zone 2 sv=j1 at hr ⊢
 cases j1 with
 |false =>
  conv=>whnf
  exact bF rfl (by rw[hr];rfl) rfl trivial
 |true =>
 conv=>whnf
 (refine⟨_,_,hK,?_⟩;conv=>whnf)
 exact bF rfl (by rw[hr];rfl) rfl trivial
set_option maxHeartbeats 4000000 in
theorem Lu(w:aL)(x:aY)(hv:∀p∈w.zones,aR p.zone=true)(hn:w.zones.length<=1000)(h0:∀p∈w.zones,SmJ p.zone)(h2:SmJ (cB w.zones x.zone).1):FnP kJ pv0 71 [.agg (fE w),.agg ((aS x).map .d)] [] (some (.d (.bool (rZ w x)),[])):=by
 refine aT [] (fun|0=>[33333]|1=>[33333]|2=>[33333]|3=>[55555]|5=>[33333,55555]|12=>[55555]|_=>[]) vk mH Tryz.func71 (by kernel_rfl) rfl (ag rfl) (ag rfl) rfl ?_
 conv=>whnf
 have hC:=sX (cx' :=kJ) (iz w x.zone hv (by omega)) rfl rfl;have hA:=sX (cx' :=kJ) (qu w x.zone hv (by omega)) rfl rfl;have hK:=sX (cx' :=kJ) (nS x.key) rfl rfl;have hr:∃r,r=rZ w x:=⟨_,rfl⟩
 obtain⟨r,hr⟩:=hr;rw[<- hr];unfold rZ at hr;generalize bz w.zones x.zone=c at hC hr;generalize cB w.zones x.zone=ab at hA hr h2;obtain⟨c,c2⟩:=c;obtain⟨ab,a2⟩:=ab;dsimp only at hC hA hr h2;refine⟨[2,3],_,hA,⟨rfl,rfl,rfl⟩,?_⟩
 conv=>whnf
 refine aA ?_
 conv=>whnf
 refine⟨[2,3,5],_,hC,⟨rfl,rfl,rfl⟩,?_⟩
 conv=>whnf
 refine aA ?_
 conv=>whnf
 refine⟨_,ah.keep (sl:=[(2,.ptr 2 0),(3,.ptr 3 0),(5,.ptr 5 0),(6,.d (.bool a2)),(8,.d (.bool c2))]) (h:=[(2,.box (fE w)),(3,.box ((aS x).map .d)),(5,.box ((aG ab).map .d))]),?_⟩
 conv=>whnf
 cases c2 with
 |false =>
  conv=>whnf
  exact bF rfl (by rw[hr];rfl) rfl trivial
 |true =>
 conv=>whnf
 cases a2 with
 |false =>
  conv=>whnf
  exact bF rfl (by rw[hr];rfl) rfl trivial
 |true =>
 conv=>whnf
 refine⟨_,ah.keep (sl:=[(2,.ptr 2 0),(3,.ptr 3 0),(5,.ptr 5 0)]) (h:=[(2,.box (fE w)),(3,.box ((aS x).map .d)),(5,.box ((aG ab).map .d))]),?_⟩
 conv=>whnf
 refine⟨[2,3,5],_,hK,⟨rfl,rfl,rfl⟩,?_⟩
 conv=>whnf
 refine aA ?_
 conv=>whnf
 generalize hkd:([⟨[],x.key.n,x.key.alg⟩]:List Datum)=kd at hr
 have hkd' :[aI ⟨[],x.key.n,x.key.alg⟩]=kd.map aI:=by rw[<- hkd];rfl
 refine⟨Nat,λk=>⟨[(3,.ptr 3 0),(5,.ptr 5 0),(9,.d (.slice 3 (kd.map aI))),(37,.d (.slice 3 (w.zones.map aC))),(38,.d (.int .i64 ((w.zones.map aC).length:Int))),(39,.d (.int .i64 k))],[(3,.box ((aS x).map .d)),(5,.box ((aG ab).map .d))]⟩,λk=>k<=w.zones.length/\(w.zones.take k).all (λp=> !((p.zone.apex==x.zone)&& !lr p.zone x.zone 7 kd))=true,λk=>w.zones.length-k,
  ⟨0,⟨Nat.zero_le _,rfl⟩,ah.keep ⟨ae,ae,⟨by rw[<- hkd'];rfl,rfl⟩,ae,ae,ae,trivial⟩⟩,?_⟩
 rintro k ⟨hk,hall⟩
 conv=>whnf
 refine af (λh1=>?_) (λh1=>?_) <;> (rw[h1];conv=>whnf)
 . have hlt:k<w.zones.length:=by simp at h1;omega
   obtain⟨p,hp⟩:∃p,w.zones[k]? =some p:=⟨_,aj hlt⟩
   refine⟨aw k,aC p,aD hp,?_⟩
   conv=>whnf
   have hnext:(w.zones.take (k+1)).all (λp=> !((p.zone.apex==x.zone)&& !lr p.zone x.zone 7 kd))= !((p.zone.apex==x.zone)&& !lr p.zone x.zone 7 kd):=by
    rw[bU hp,List.all_append,hall];simp
   have hbad:(!((p.zone.apex==x.zone)&& !lr p.zone x.zone 7 kd))=false->r=false:=λh=>by
    have:w.zones.all (λp=> !((p.zone.apex==x.zone)&& !lr p.zone x.zone 7 kd))=false:=by
     rw[List.all_eq_false];exact⟨p,ar hp,by rw[h];decide⟩
    rw[hr,this];rfl
   have hp0:=h0 p (ar hp)
   repeat' (first|(refine⟨_,_,qJ p.zone x.zone 7 kd hp0.1 (hp0.2 _ _),?_⟩;conv=>whnf)|(refine af (λh=>?_) (λh=>?_) <;> (rw[h];conv=>whnf))|fail)
   all_goals first
    |exact bF rfl (by rw[hbad (by simp only[*, if_true,if_false,aK])];rfl) rfl
    |exact⟨k+1,⟨hlt,by rw[hnext];simp only[*, if_true,if_false,aK]⟩,by(show w.zones.length-(k+1)<w.zones.length-k;omega),ah.keep ⟨ae,ae,ae,ae,ae,⟨an (k:=k) (by omega),rfl⟩,trivial⟩⟩
 . obtain rfl:k=w.zones.length:=by simp at h1;omega
   rw[List.take_length]at hall;refine⟨_,ah.keep (sl:=[(3,.ptr 3 0),(5,.ptr 5 0),(9,.d (.slice 3 (kd.map aI)))]) (h:=[(3,.box ((aS x).map .d)),(5,.box ((aG ab).map .d))]),?_⟩
   conv=>whnf
   (refine⟨_,_,qJ ab x.zone 6 kd h2.1 (h2.2 _ _),?_⟩;conv=>whnf)
   exact bF rfl (by rw[hr,hall];rfl) rfl trivial
set_option maxHeartbeats 4000000 in
theorem Bf(w:aL)(x:aY)(hF:tR w)(hvw:eB w=true)(hk:x.kind=1)(hhr:fP w x.hosts=true)(hh:∀n∈x.hosts,bk w n=true)(hl:x.hosts.length<=1000)(h1:SmJ (bz w.zones x.zone).1)(h2:SmJ (cB w.zones x.zone).1):FnP kJ pv0 31 [.agg ((bn w).map .d),.agg ((aS x).map .d)] [] (some (.tuple [.d (.bool (pZ w x)),.d (.int .i64 0)],[])):=by
 refine aT [] (fun|10=>[33333]|_=>[]) vk mH Tryz.func31 (by kernel_rfl) rfl (ag rfl) (ag rfl) rfl ?_;have hM:=LK w x (λp hp=>(gY hvw p hp).1) hF.zones hl hh h1 h2;have hV:=vo w hF;have hR:=uM w x.hosts;rw[hvw]at hV;rw[hhr]at hR;generalize pZ w x=r at hM ⊢;obtain⟨kind,zone,name,hosts,key⟩:=x;dsimp only at hk;subst hk
 conv=>whnf
 (refine⟨_,_,hV,?_⟩;conv=>whnf)
 (refine⟨_,_,hR,?_⟩;conv=>whnf)
 refine⟨[2,3,6],_,hM,⟨rfl,rfl,rfl⟩,?_⟩
 conv=>whnf
 refine aA ?_
 conv=>whnf
 exact bF rfl rfl rfl trivial
set_option maxHeartbeats 4000000 in
theorem KV(w:aL)(x:aY)(hF:tR w)(hvw:eB w=true)(hk:x.kind=2)(h1:∀p∈w.zones,SmJ p.zone)(h2:SmJ (cB w.zones x.zone).1):FnP kJ pv0 31 [.agg ((bn w).map .d),.agg ((aS x).map .d)] [] (some (.tuple [.d (.bool (rZ w x)),.d (.int .i64 0)],[])):=by
 refine aT [] (fun|12=>[33333]|_=>[]) vk mH Tryz.func31 (by kernel_rfl) rfl (ag rfl) (ag rfl) rfl ?_;have hM:=Lu w x (λp hp=>(gY hvw p hp).1) hF.zones h1 h2;have hV:=vo w hF;rw[hvw]at hV;generalize rZ w x=r at hM ⊢;obtain⟨kind,zone,name,hosts,key⟩:=x;dsimp only at hk;subst hk
 conv=>whnf
 (refine⟨_,_,hV,?_⟩;conv=>whnf)
 refine⟨[2,3,6],_,hM,⟨rfl,rfl,rfl⟩,?_⟩
 conv=>whnf
 refine aA ?_
 conv=>whnf
 exact bF rfl rfl rfl trivial
end Go.Proofs.YtodofogcincleaaGreatDoor
