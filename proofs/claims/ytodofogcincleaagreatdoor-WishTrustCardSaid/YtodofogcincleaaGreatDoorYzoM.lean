/-
  One text.
-/
import Derived.Test.YtodofogcincleaaGreatDoorMYka
set_option linter.all false
set_option maxHeartbeats 4000000
set_option maxRecDepth 100000
namespace Go.Proofs.YtodofogcincleaaGreatDoor
open NQ Go.RowKit
def uG(w:aZ)(af:Bs)(ay:List Int):Bool:=w.ai.all (λp=> !((p.ah.af==af)&& !ay.contains p.host))&& !ay.any (λn=> !w.ai.any (fb n af))
def qM(w:aZ)(x:bA):Bool:= !((!(bS w.ai x.ah).2|| !(cH w.ai x.ah).2)|| !uG w x.ah x.ay)&&(mu (bS w.ai x.ah).1 x.ah 2 (dh w x.ay)&&mu (cH w.ai x.ah).1 x.ah 2 (dh w x.ay))
def sZ(w:aZ)(x:bA):Bool:= !(!(bS w.ai x.ah).2|| !(cH w.ai x.ah).2)&&(w.ai.all (λp=> !((p.ah.af==x.ah)&& !mu p.ah x.ah 7 [⟨[],x.key.n,x.key.alg⟩]))&&mu (cH w.ai x.ah).1 x.ah 6 [⟨[],x.key.n,x.key.alg⟩])
def SmJ(z:aO):Prop:=z.ak.length<=100000/\ ∀s k,(wfR z s k).1.data.length<=200000
end Go.Proofs.YtodofogcincleaaGreatDoor
namespace Go.Proofs.YtodofogcincleaaGreatDoor
open NQ Go.RowKit
noncomputable def lK:Cx:={cx with chg:=gX [(113,10),(62,10),(112,10),(117,10),(137,10),(70,10),(71,10),(200,9),(214,9),(165,9),(123,9)]}
theorem wM:bD lK:=bo
theorem nu:lK.P.follows .mixedOrders=true:=mixed
theorem uh{cx cx' :Cx}{pv:Int->Value}{f:FuncId}{args:List AV}{h:List (Nat×Blk)}{out:Option (AV×List (Nat×Blk))}(hf:FnP cx pv f args h out)(h1:cx'.P=cx.P)(h2:cx'.gl=cx.gl):FnP cx' pv f args h out:=bR h1 h2 hf
attribute [local irreducible] NQ.FnP
theorem DD(w:aZ)(n:Int)(af:Bs)(hn:w.ai.length<=100000):FnP lK pv0 200 [.d (.int .i64 n),.ptr 100003 0,.d (.ptr [.str af])] [(100003,.box (gJ w))] (some (.d (.bool (!w.ai.any (fb n af))),[(100003,.box (gJ w))])):=by
 refine bt [] (fun|1=>[33333]|_=>[]) wM nu Tryz.func200 ?_;conv=>whnf
 have hC:=uh (cx' :=lK) (kZ w n af hn) rfl rfl;refine⟨[100003],_,hC,⟨rfl,rfl,rfl⟩,?_⟩;conv=>whnf
 refine aL ?_;conv=>whnf
 exact cq rfl rfl rfl
theorem Qc(w:aZ)(af:Bs)(l:List Int)(hn:w.ai.length<=100000)(hl:l.length<=1000):FnP lK pv0 214 [.d (.slice 1 (l.map dj)),.fn 200 [] [.ptr 100003 0,.d (.ptr [.str af])]] [(100003,.box (gJ w))]
 (some (.d (.int .i64 (match l.findIdx? (λn=> !w.ai.any (fb n af))with|some k=>(k:Int)|none=> -1)),[(100003,.box (gJ w))])):=by
 refine bt [] (fun|4=>[33333]|_=>[]) wM nu Tryz.func214 ?_;conv=>whnf
 refine⟨Nat,λk=>⟨[(0,.d (.slice 1 (l.map dj))),(1,.fn 200 [] [.ptr 100003 0,.d (.ptr [.str af])]),(7,.d (.int .i64 ((l.map dj).length:Int))),(8,.d (.int .i64 k))],[(100003,.box (gJ w))]⟩,λk=>k<=l.length/\ ∀j y,j<k->l[j]? =some y->(!w.ai.any (fb y af))=false,λk=>l.length-k,
  ⟨0,⟨by omega,λj y h=>by omega⟩,aq.keep ⟨ae,ae,ae,ae,trivial⟩⟩,λk hk=>?_⟩
 obtain⟨hk,ha⟩:=hk;conv=>whnf
 refine aj (λh1=>?_) (λh1=>?_) <;> (rw[h1];conv=>whnf)
 .have hc:k<l.length:=by simp at h1;omega
  obtain⟨s,hs⟩:∃s,l[k]? =some s:=⟨_,au hc⟩
  refine⟨aC k,dj s,aM hs,?_⟩;conv=>whnf
  refine⟨[],_,DD w s af hn,⟨rfl,rfl,rfl⟩,?_⟩;conv=>whnf
  refine aL ?_;conv=>whnf
  refine aj (λh2=>?_) (λh2=>?_) <;> (rw[h2];conv=>whnf)
  .have:l.findIdx? (λn=> !w.ai.any (fb n af))=some k:=by
    rw[List.findIdx?_eq_some_iff_getElem];obtain⟨g1,g2⟩:=aB.1 hs;refine⟨g1,by rw[g2];exact h2,λj hj=>?_⟩;have:=ha j (l[j]) hj (au (by omega));rw[this];decide
   rw[this];exact cq rfl rfl rfl
  .refine⟨k+1,⟨hc,λj y hj hy=>?_⟩,by(show l.length-(k+1)<l.length-k;omega),aq.keep ⟨ae,ae,ae,⟨ax (by omega),rfl⟩,trivial⟩⟩;rcases Nat.lt_succ_iff_lt_or_eq.1 hj with hj|rfl
   .exact ha j y hj hy
   .rw[hs]at hy;cases hy;exact h2
 .obtain rfl:k=l.length:=by simp at h1;omega
  have:l.findIdx? (λn=> !w.ai.any (fb n af))=none:=by
   rw[List.findIdx?_eq_none_iff];intro x hx;obtain⟨i,hi⟩:=cQ hx;exact ha i x (aB.1 hi).1 hi
  rw[this];exact cq rfl rfl rfl
theorem Pb(w:aZ)(af:Bs)(l:List Int)(hn:w.ai.length<=100000)(hl:l.length<=1000):FnP lK pv0 165 [.d (.slice 1 (l.map dj)),.fn 200 [] [.ptr 100003 0,.d (.ptr [.str af])]] [(100003,.box (gJ w))]
 (some (.d (.bool (l.any λn=> !w.ai.any (fb n af))),[(100003,.box (gJ w))])):=by
 refine bt [] (fun|1=>[33333]|_=>[]) wM nu Tryz.func165 ?_;have he:∀i:Option Nat,i=l.findIdx? (λn=> !w.ai.any (fb n af))->decide ((match i with|some k=>(k:Int)|none=> -1)>=0)=l.any λn=> !w.ai.any (fb n af):=by
  rintro i rfl;cases hi:l.findIdx? (λn=> !w.ai.any (fb n af))with
  |none =>
   have:=List.findIdx?_eq_none_iff.1 hi
   symm
   rw[show decide ((-1:Int)>=0)=false from rfl,List.any_eq_false];intro x hx;rw[this x hx];decide
  |some k =>
   obtain⟨hk,hp,_⟩:=List.findIdx?_eq_some_iff_getElem.1 hi
   symm
   rw[show decide ((k:Int)>=0)=true by simp,List.any_eq_true];exact⟨_,List.getElem_mem hk,hp⟩
 conv=>whnf
 refine⟨[],_,Qc w af l hn hl,⟨rfl,rfl,rfl⟩,?_⟩;conv=>whnf
 refine aL ?_;have he:=he _ rfl;generalize l.findIdx? (λn=> !w.ai.any (fb n af))=i at he ⊢;conv=>whnf
 exact cq rfl (by rw[<- he];rfl) rfl
theorem Gq(w:aZ)(af:Bs)(l:List Int)(hn:w.ai.length<=1000)(hl:l.length<=1000):FnP lK pv0 137 [.agg (gJ w),.d (.str af),.d (.slice 1 (l.map dj))] [] (some (.d (.bool (uG w af l)),[])):=by
 refine bt [100003] (fun|0=>[33333]|7=>[33333,55555]|_=>[]) wM nu Tryz.func137 ?_;conv=>whnf
 refine⟨Nat,λk=>⟨[(2,.d (.slice 1 (l.map dj))),(3,.ptr 3 0),(4,.ptr 4 0),(11,.d (.slice 3 (w.ai.map aR))),(12,.d (.int .i64 ((w.ai.map aR).length:Int))),(13,.d (.int .i64 k))],[(3,.box (gJ w)),(4,.box [.d (.str af)])]⟩,λk=>k<=w.ai.length/\(w.ai.take k).all (λp=> !((p.ah.af==af)&& !l.contains p.host))=true,λk=>w.ai.length-k,
  ⟨0,⟨Nat.zero_le _,rfl⟩,aq.keep⟩,?_⟩
 rintro k ⟨hk,ha⟩;conv=>whnf
 refine aj (λh1=>?_) (λh1=>?_) <;> (rw[h1];conv=>whnf)
 .have hc:k<w.ai.length:=by simp at h1;omega
  obtain⟨p,hp⟩:∃p,w.ai[k]? =some p:=⟨_,au hc⟩
  refine⟨aC k,aR p,aM hp,?_⟩;conv=>whnf
  have hb:(w.ai.take (k+1)).all (λp=> !((p.ah.af==af)&& !l.contains p.host))= !((p.ah.af==af)&& !l.contains p.host):=by
   rw[bO hp,List.all_append,ha];simp
  have hd:(!((p.ah.af==af)&& !l.contains p.host))=false->uG w af l=false:=λh=>by
   unfold uG;have:w.ai.all (λp=> !((p.ah.af==af)&& !l.contains p.host))=false:=by
    rw[List.all_eq_false];exact⟨p,aD hp,by rw[h];decide⟩
   rw[this];rfl
  repeat' (first|(refine⟨_,_,kX l p.host (by omega),?_⟩;conv=>whnf)|(refine aj (λh=>?_) (λh=>?_) <;> (rw[h];conv=>whnf))|fail)
  all_goals first
   |exact cq rfl (by rw[hd (by simp only[*, if_true,if_false,aY])];rfl) rfl
   |exact⟨k+1,⟨hc,by rw[hb];simp only[*, if_true,if_false,aY]⟩,by(show w.ai.length-(k+1)<w.ai.length-k;omega),aq.keep ⟨ae,ae,ae,ae,ae,⟨ax (k:=k) (by omega),rfl⟩,trivial⟩⟩
 .obtain rfl:k=w.ai.length:=by simp at h1;omega
  rw[List.take_length]at ha;have hs:uG w af l= !(l.any λn=> !w.ai.any (fb n af)):=by unfold uG;rw[ha];rfl
  rw[hs];refine⟨_,aq.trans (aq.sn [4]) (aq.trans (aq.name 3 100003 rfl rfl) (aq.keep (sl:=[(2,.d (.slice 1 (l.map dj))),(3,.ptr 100003 0),(4,.d (.ptr [.str af]))]) (h:=[(100003,.box (gJ w))]))),?_⟩;conv=>whnf
  refine⟨[],_,Pb w af l (by omega) hl,⟨rfl,rfl,rfl⟩,?_⟩;conv=>whnf
  refine aL ?_;conv=>whnf
  exact iQ rfl rfl rfl
theorem NL(w:aZ)(x:bA)(hv:∀p∈w.ai,bf p.ah=true)(hn:w.ai.length<=1000)(hl:x.ay.length<=1000)(hh:∀n∈x.ay,bJ w n=true)(h1:SmJ (bS w.ai x.ah).1)(h2:SmJ (cH w.ai x.ah).1):FnP lK pv0 70 [.agg (gJ w),.agg ((bj x).map .d)] [] (some (.d (.bool (qM w x)),[])):=by
 refine bt [] (fun|0=>[33333]|1=>[33333]|2=>[33333]|3=>[33333,55555]|5=>[33333,55555]|6=>[55555]|_=>[]) wM nu Tryz.func70 ?_;conv=>whnf
 have hC:=uh (cx' :=lK) (jm w x.ah hv (by omega)) rfl rfl;have hA:=uh (cx' :=lK) (rp w x.ah hv (by omega)) rfl rfl;have hS:=uh (cx' :=lK) (sC w x.ay hl hh) rfl rfl;have hB:=Gq w x.ah x.ay hn hl;have hr:∃r,r=qM w x:=⟨_,rfl⟩
 obtain⟨r,hr⟩:=hr;rw[<- hr];unfold qM at hr;generalize bS w.ai x.ah=c at hC hr h1;generalize cH w.ai x.ah=ab at hA hr h2;generalize dh w x.ay=sv at hS hr;generalize uG w x.ah x.ay=sb at hB hr;obtain⟨c,c2⟩:=c;obtain⟨ab,a2⟩:=ab;dsimp only at hC hA hr h1 h2;have hJ:=rH c x.ah 2 sv h1.1 (h1.2 _ _);have hK:=rH ab x.ah 2 sv h2.1 (h2.2 _ _);refine⟨[2,3],_,hC,⟨rfl,rfl,rfl⟩,?_⟩;conv=>whnf
 refine aL ?_;conv=>whnf
 refine⟨[2,3,5],_,hA,⟨rfl,rfl,rfl⟩,?_⟩;conv=>whnf
 refine aL ?_;conv=>whnf
 refine⟨_,aq.keep (sl:=[(2,.ptr 2 0),(3,.ptr 3 0),(5,.ptr 5 0),(6,.d (.bool c2)),(7,.ptr 7 0),(8,.d (.bool a2))]) (h:=[(2,.box (gJ w)),(3,.box ((bj x).map .d)),(5,.box ((aX c).map .d)),(7,.box ((aX ab).map .d))]),?_⟩;conv=>whnf
 cases c2 with
 |false =>
  conv=>whnf
  exact cq rfl (by rw[hr];rfl) rfl trivial
 |true =>
 conv=>whnf
 cases a2 with
 |false =>
  conv=>whnf
  exact cq rfl (by rw[hr];rfl) rfl trivial
 |true =>
 conv=>whnf
 refine⟨[2,3,5,7],_,hB,⟨rfl,rfl,rfl⟩,?_⟩;conv=>whnf
 refine aL ?_;conv=>whnf
 cases sb with
 |false =>
  conv=>whnf
  exact cq rfl (by rw[hr];rfl) rfl trivial
 |true =>
 conv=>whnf
 refine⟨_,aq.keep (sl:=[(2,.ptr 2 0),(3,.ptr 3 0),(5,.ptr 5 0),(7,.ptr 7 0)]) (h:=[(2,.box (gJ w)),(3,.box ((bj x).map .d)),(5,.box ((aX c).map .d)),(7,.box ((aX ab).map .d))]),?_⟩;conv=>whnf
 refine⟨[2,3,5,7],_,hS,⟨rfl,rfl,rfl⟩,?_⟩;conv=>whnf
 refine aL ?_;conv=>whnf
 refine⟨_,aq.keep (sl:=[(3,.ptr 3 0),(5,.ptr 5 0),(7,.ptr 7 0),(9,.d (.slice 3 (sv.map aQ)))]) (h:=[(3,.box ((bj x).map .d)),(5,.box ((aX c).map .d)),(7,.box ((aX ab).map .d))]),?_⟩;conv=>whnf
 (refine⟨_,_,hJ,?_⟩;conv=>whnf)
 generalize mu c x.ah 2 sv=j1 at hr ⊢
 cases j1 with
 |false =>
  conv=>whnf
  exact cq rfl (by rw[hr];rfl) rfl trivial
 |true =>
 conv=>whnf
 (refine⟨_,_,hK,?_⟩;conv=>whnf)
 exact cq rfl (by rw[hr];rfl) rfl trivial
theorem Nt(w:aZ)(x:bA)(hv:∀p∈w.ai,bf p.ah=true)(hn:w.ai.length<=1000)(h0:∀p∈w.ai,SmJ p.ah)(h2:SmJ (cH w.ai x.ah).1):FnP lK pv0 71 [.agg (gJ w),.agg ((bj x).map .d)] [] (some (.d (.bool (sZ w x)),[])):=by
 refine bt [] (fun|0=>[33333]|1=>[33333]|2=>[33333]|3=>[55555]|5=>[33333,55555]|12=>[55555]|_=>[]) wM nu Tryz.func71 ?_;conv=>whnf
 have hC:=uh (cx' :=lK) (jm w x.ah hv (by omega)) rfl rfl;have hA:=uh (cx' :=lK) (rp w x.ah hv (by omega)) rfl rfl;have hK:=uh (cx' :=lK) (oP x.key) rfl rfl;have hr:∃r,r=sZ w x:=⟨_,rfl⟩
 obtain⟨r,hr⟩:=hr;rw[<- hr];unfold sZ at hr;generalize bS w.ai x.ah=c at hC hr;generalize cH w.ai x.ah=ab at hA hr h2;obtain⟨c,c2⟩:=c;obtain⟨ab,a2⟩:=ab;dsimp only at hC hA hr h2;refine⟨[2,3],_,hA,⟨rfl,rfl,rfl⟩,?_⟩;conv=>whnf
 refine aL ?_;conv=>whnf
 refine⟨[2,3,5],_,hC,⟨rfl,rfl,rfl⟩,?_⟩;conv=>whnf
 refine aL ?_;conv=>whnf
 refine⟨_,aq.keep (sl:=[(2,.ptr 2 0),(3,.ptr 3 0),(5,.ptr 5 0),(6,.d (.bool a2)),(8,.d (.bool c2))]) (h:=[(2,.box (gJ w)),(3,.box ((bj x).map .d)),(5,.box ((aX ab).map .d))]),?_⟩;conv=>whnf
 cases c2 with
 |false =>
  conv=>whnf
  exact cq rfl (by rw[hr];rfl) rfl trivial
 |true =>
 conv=>whnf
 cases a2 with
 |false =>
  conv=>whnf
  exact cq rfl (by rw[hr];rfl) rfl trivial
 |true =>
 conv=>whnf
 refine⟨_,aq.keep (sl:=[(2,.ptr 2 0),(3,.ptr 3 0),(5,.ptr 5 0)]) (h:=[(2,.box (gJ w)),(3,.box ((bj x).map .d)),(5,.box ((aX ab).map .d))]),?_⟩;conv=>whnf
 refine⟨[2,3,5],_,hK,⟨rfl,rfl,rfl⟩,?_⟩;conv=>whnf
 refine aL ?_;conv=>whnf
 generalize hz:([⟨[],x.key.n,x.key.alg⟩]:List Datum)=kd at hr
 have ho :[aQ ⟨[],x.key.n,x.key.alg⟩]=kd.map aQ:=by rw[<- hz];rfl
 refine⟨Nat,λk=>⟨[(3,.ptr 3 0),(5,.ptr 5 0),(9,.d (.slice 3 (kd.map aQ))),(37,.d (.slice 3 (w.ai.map aR))),(38,.d (.int .i64 ((w.ai.map aR).length:Int))),(39,.d (.int .i64 k))],[(3,.box ((bj x).map .d)),(5,.box ((aX ab).map .d))]⟩,λk=>k<=w.ai.length/\(w.ai.take k).all (λp=> !((p.ah.af==x.ah)&& !mu p.ah x.ah 7 kd))=true,λk=>w.ai.length-k,
  ⟨0,⟨Nat.zero_le _,rfl⟩,aq.keep ⟨ae,ae,⟨by rw[<- ho];rfl,rfl⟩,ae,ae,ae,trivial⟩⟩,?_⟩
 rintro k ⟨hk,ha⟩;conv=>whnf
 refine aj (λh1=>?_) (λh1=>?_) <;> (rw[h1];conv=>whnf)
 .have hc:k<w.ai.length:=by simp at h1;omega
  obtain⟨p,hp⟩:∃p,w.ai[k]? =some p:=⟨_,au hc⟩
  refine⟨aC k,aR p,aM hp,?_⟩;conv=>whnf
  have hb:(w.ai.take (k+1)).all (λp=> !((p.ah.af==x.ah)&& !mu p.ah x.ah 7 kd))= !((p.ah.af==x.ah)&& !mu p.ah x.ah 7 kd):=by
   rw[bO hp,List.all_append,ha];simp
  have hd:(!((p.ah.af==x.ah)&& !mu p.ah x.ah 7 kd))=false->r=false:=λh=>by
   have:w.ai.all (λp=> !((p.ah.af==x.ah)&& !mu p.ah x.ah 7 kd))=false:=by
    rw[List.all_eq_false];exact⟨p,aD hp,by rw[h];decide⟩
   rw[hr,this];rfl
  have hq:=h0 p (aD hp)
  repeat' (first|(refine⟨_,_,rH p.ah x.ah 7 kd hq.1 (hq.2 _ _),?_⟩;conv=>whnf)|(refine aj (λh=>?_) (λh=>?_) <;> (rw[h];conv=>whnf))|fail)
  all_goals first
   |exact cq rfl (by rw[hd (by simp only[*, if_true,if_false,aY])];rfl) rfl
   |exact⟨k+1,⟨hc,by rw[hb];simp only[*, if_true,if_false,aY]⟩,by(show w.ai.length-(k+1)<w.ai.length-k;omega),aq.keep ⟨ae,ae,ae,ae,ae,⟨ax (k:=k) (by omega),rfl⟩,trivial⟩⟩
 .obtain rfl:k=w.ai.length:=by simp at h1;omega
  rw[List.take_length]at ha;refine⟨_,aq.keep (sl:=[(3,.ptr 3 0),(5,.ptr 5 0),(9,.d (.slice 3 (kd.map aQ)))]) (h:=[(3,.box ((bj x).map .d)),(5,.box ((aX ab).map .d))]),?_⟩;conv=>whnf
  (refine⟨_,_,rH ab x.ah 6 kd h2.1 (h2.2 _ _),?_⟩;conv=>whnf)
  exact cq rfl (by rw[hr,ha];rfl) rfl trivial
theorem CE(w:aZ)(x:bA)(hF:va w)(hg:fm w=true)(hk:x.kind=1)(ht:gR w x.ay=true)(hh:∀n∈x.ay,bJ w n=true)(hl:x.ay.length<=1000)(h1:SmJ (bS w.ai x.ah).1)(h2:SmJ (cH w.ai x.ah).1):FnP lK pv0 31 [.agg ((bu w).map .d),.agg ((bj x).map .d)] [] (some (.tuple [.d (.bool (qM w x)),.d (.int .i64 0)],[])):=by
 refine bt [] (fun|10=>[33333]|_=>[]) wM nu Tryz.func31 ?_;have hM:=NL w x (λp hp=>(gN hg p hp).1) hF.ai hl hh h1 h2;have hV:=wP w hF;have hR:=vY w x.ay;rw[hg]at hV;rw[ht]at hR;generalize qM w x=r at hM ⊢;obtain⟨kind,ah,name,ay,key⟩:=x;dsimp only at hk;subst hk;conv=>whnf
 (refine⟨_,_,hV,?_⟩;conv=>whnf)
 (refine⟨_,_,hR,?_⟩;conv=>whnf)
 refine⟨[2,3,6],_,hM,⟨rfl,rfl,rfl⟩,?_⟩;conv=>whnf
 refine aL ?_;conv=>whnf
 exact cq rfl rfl rfl trivial
theorem MQ(w:aZ)(x:bA)(hF:va w)(hg:fm w=true)(hk:x.kind=2)(h1:∀p∈w.ai,SmJ p.ah)(h2:SmJ (cH w.ai x.ah).1):FnP lK pv0 31 [.agg ((bu w).map .d),.agg ((bj x).map .d)] [] (some (.tuple [.d (.bool (sZ w x)),.d (.int .i64 0)],[])):=by
 refine bt [] (fun|12=>[33333]|_=>[]) wM nu Tryz.func31 ?_;have hM:=Nt w x (λp hp=>(gN hg p hp).1) hF.ai h1 h2;have hV:=wP w hF;rw[hg]at hV;generalize sZ w x=r at hM ⊢;obtain⟨kind,ah,name,ay,key⟩:=x;dsimp only at hk;subst hk;conv=>whnf
 (refine⟨_,_,hV,?_⟩;conv=>whnf)
 refine⟨[2,3,6],_,hM,⟨rfl,rfl,rfl⟩,?_⟩;conv=>whnf
 refine aL ?_;conv=>whnf
 exact cq rfl rfl rfl trivial
end Go.Proofs.YtodofogcincleaaGreatDoor
