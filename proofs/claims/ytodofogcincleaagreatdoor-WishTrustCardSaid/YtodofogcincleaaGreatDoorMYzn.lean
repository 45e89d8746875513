/-
  Merged texts.
-/
import Derived.Test.YtodofogcincleaaGreatDoorYzmM
import Derived.Test.YtodofogcincleaaGreatDoorMYzf
set_option linter.all false
set_option maxHeartbeats 8000000
set_option maxRecDepth 100000
namespace Go.Proofs.YtodofogcincleaaGreatDoor
open NQ Go.RowKit
def JC(w:aZ)(x:bA)(since aO:Int):bz:=⟨w,since,aO,(bS w.ai x.ah).1,(wfR (bS w.ai x.ah).1 x.ah 2).1.aP,[],[],[]⟩
def Ao(x:bA):Int:=match x.ay with|n::_=>n|[]=>0
def uu(o:bz)(x:bA):Option bz:=if x.kind=1 then rL o x else if x.kind=2 then mS o x else if x.kind=3 then tO o x (Ao x)else if x.kind=4 then ri o x else some o
def nh(w:aZ)(x:bA)(since aO:Int):Option bz:=if (wfR (bS w.ai x.ah).1 x.ah 2).2=true then uu (JC w x since aO) x else none
noncomputable def ir:Cx:={cx with chg:=gX [(62,10),(63,11),(64,9),(65,9),(66,9),(67,9)]}
theorem Ma:bD ir:=bp
theorem Cd:ir.P.follows .mixedOrders=true:=mixed
def Qd:Nat->List Nat:=fun|5=>[33333,55555]|6=>[33333,55555]|7=>[55555]|9=>[33333]|11=>[33333]|13=>[33333]|15=>[33333]|16=>[90041]|_=>[]
noncomputable abbrev po:Code:=(Tryz.f29).body.getD .skip
def yM(a b:AV):List (Nat×Blk):=[(100008,.box [a]),(100009,.box [b])]
def QpS(r:Option bz):St->Prop:=λst=>r=none/\st.get 8= .ptr 100008 0/\st.get 9= .ptr 100009 0/\(∃c,find st.heap 100008=some (.box [c]))/\ ∃c,find st.heap 100009=some (.box [c])
def QrS(r:Option bz):Ex->St->Prop:=λe st=>match e with
 | .ret=> ∃o,r=some o/\aq ir [100034] st ⟨[(8,.ptr 100008 0),(9,.ptr 100009 0)],yM (.d (.slice 1 (o.bq.map dD))) (.d (.int .i64 0))⟩
 |_=>False
def stS(w:aZ)(x:bA)(since aO:Int):St:=⟨[(2,.d (.int .i64 since)),(3,.d (.int .i64 aO)),(4,.ptr 4 0),(5,.ptr 5 0),(8,.ptr 100008 0),(9,.ptr 100009 0)],(4,.box ((bu w).map .d))::(5,.box ((bj x).map .d))::yM (.nil 1) (.d (.int .i64 0))⟩
theorem yi{w:aZ}:∀(l:List Int) {seen:List Bs},lQ w seen l=true-> ∀n∈l,bK w n=true
 |[],_,_,n,hn=>by cases hn
 |m::t,seen,h,n,hn=>by
  unfold lQ at h;simp only[aT]at h;rcases List.mem_cons.1 hn with rfl|hn
  .exact h.1.1
  .exact yi t h.2 n hn
theorem nN{w:aZ}{l:List Int}(h:gR w l=true):l.length<=8/\l≠[]/\ ∀n∈l,bK w n=true:=by
 unfold gR at h;simp only[aT,Bool.not_eq_true',Bool.or_eq_false_iff,decide_eq_false_iff_not]at h;refine⟨by omega,λe=>?_,yi l h.2⟩;subst e;simp at h
attribute [local irreducible] NQ.FnP
theorem ID(w:aZ)(x:bA)(since aO:Int)(hv:∀p∈w.ai,bf p.ah=true)(hn:w.ai.length<=20)(ks:w.ay.length<=1000)(hc:(bS w.ai x.ah).2=true)(hk:kB w x=true) :
 vcp ir [100034] pvW (Tryz.f29).ntmps Qd (QpS (nh w x since aO)) ((gL 4 po).getD .skip) (QrS (nh w x since aO)) (stS w x since aO):=by
 conv=>whnf
 have hC:=lift (cx' :=ir) (jl w x.ah hv (by omega)) rfl rfl;have kL:∃r,r=nh w x since aO:=⟨_,rfl⟩
 obtain⟨r,hr⟩:=kL;rw[<- hr];unfold nh JC at hr;have kP:(bS w.ai x.ah).2=true->bf (bS w.ai x.ah).1=true:=λh=>by
  rcases eX w.ai x.ah with ⟨p,hp,e,_⟩|⟨e,_⟩
  .rw[e];exact hv p hp
  .rw[e]at h;cases h
 have hz:=kP hc;generalize bS w.ai x.ah=c at hC hr hz hc;obtain⟨c,c2⟩:=c;dsimp only at hC hr hz hc;subst hc;refine⟨_,aq.trans (aq.keep (sl:=[(4,.ptr 4 0),(5,.ptr 5 0),(8,.ptr 100008 0),(9,.ptr 100009 0),(10,.ptr 34 0)]) (h:=(34,.box ((bu w).map .d++[.d (.int .i64 since),.d (.int .i64 aO),.d (.str []),.nil 5,.d (.int .i64 0),.omap 32,.nil 3,.nil 1]))::(32,.smap [])::(4,.box ((bu w).map .d))::(5,.box ((bj x).map .d))::yM (.nil 1) (.d (.int .i64 0))))
  (aq.trans (aq.name 34 100034 rfl rfl) (aq.trans (aq.name 32 90032 rfl rfl) (aq.trans (aq.jv 100034 13 90040 3 _ 45 3 rfl rfl rfl (by decide)) (aq.trans (aq.jv 100034 14 90041 1 _ 40 1 rfl rfl rfl (by decide))
  (aq.keep (sl:=[(5,.ptr 5 0),(8,.ptr 100008 0),(9,.ptr 100009 0),(10,.ptr 100034 0)]) (h:=(5,.box ((bj x).map .d))::(100008,.box [.nil 1])::(100009,.box [.d (.int .i64 0)])::(100034,.box ((bu w).map .d++[.d (.int .i64 since),.d (.int .i64 aO),.d (.str []),.nil 5,.d (.int .i64 0),.omap 90032,.own 90040,.own 90041]))::(90032,.smap [])::(90040,.row 45 3 [])::(90041,.row 40 1 [])::[])))))),?_⟩
 conv=>whnf
 (refine cu ?_;conv=>whnf)
 have hC:=bU (pv' :=pvW) hC;refine⟨[5,100008,100009,100034,90032,90040,90041],_,hC,⟨rfl,rfl,rfl⟩,?_⟩;conv=>whnf
 refine aM ?_;conv=>whnf
 repeat (refine cP ?_;conv=>whnf)
 refine⟨_,aq.keep (sl:=[(5,.ptr 5 0),(8,.ptr 100008 0),(9,.ptr 100009 0),(10,.ptr 100034 0)]) (h:=(5,.box ((bj x).map .d))::(100008,.box [.nil 1])::(100009,.box [.d (.int .i64 0)])::(100034,.box ((bu w).map .d++[.d (.int .i64 since),.d (.int .i64 aO),.d (.str c.af),.d (.slice 5 (c.aj.map aw)),.d (.int .i64 0),.omap 90032,.own 90040,.own 90041]))::(90032,.smap [])::(90040,.row 45 3 [])::(90041,.row 40 1 [])::[]),?_⟩;conv=>whnf
 have hN:=uy c x.ah 2 (by have:=(dA hz).1;omega);generalize wfR c x.ah 2=s2 at hN hr;obtain⟨s2,b2⟩:=s2;dsimp only at hN hr;cases b2 with
 |false =>
  rw[if_neg (by decide)]at hN hr;have hN:=lift (cx' :=ir) hN rfl rfl
  (refine cu ?_;conv=>whnf)
  refine⟨[5,100008,100009,100034,90032,90040,90041],_,hN,⟨rfl,rfl,rfl⟩,?_⟩;exact⟨hr,rfl,rfl,⟨_,rfl⟩,⟨_,rfl⟩⟩
 |true =>
 rw[if_pos rfl]at hN hr;have hN:=lift (cx' :=ir) hN rfl rfl
 (refine cu ?_;conv=>whnf)
 refine⟨[5,100008,100009,100034,90032,90040,90041],_,hN,⟨rfl,rfl,rfl⟩,?_⟩;conv=>whnf
 refine aM ?_;conv=>whnf
 repeat (refine cP ?_;conv=>whnf)
 generalize ho:bz.mk w since aO c s2.aP [] [] []=o at hr
 refine⟨_,aq.keep (sl:=[(5,.ptr 5 0),(8,.ptr 100008 0),(9,.ptr 100009 0),(10,.ptr 100034 0)]) (h:=(5,.box ((bj x).map .d))::(100008,.box [.nil 1])::(100009,.box [.d (.int .i64 0)])::bH o) (by repeat' (first|exact trivial|refine⟨⟨rfl,rfl⟩,?_⟩)) (by subst ho;exact(by repeat' (first|exact trivial|refine⟨⟨rfl,rfl⟩,?_⟩))),?_⟩;conv=>whnf
 have ow:o.w=w:=by rw[<- ho]
 have oz:o.ah=c:=by rw[<- ho]
 have op:o.aF=[]:=by rw[<- ho]
 have os:o.bq=[]:=by rw[<- ho]
 have og:o.got=[]:=by rw[<- ho]
 clear ho;rw[<- ow]at hv hn ks hk;rw[<- oz]at hz;clear hC hN;unfold kB at hk;by_cases k1:x.kind=1
 .rw[show(x.kind==1)=true by simp[k1]];rw[if_pos k1,aT]at hk;obtain⟨hl,hT,hh⟩:=nN hk.2;have hQ:r=rL o x:=by rw[hr];unfold uu;rw[if_pos k1]
  have hM:=lift (cx' :=ir) (QB o x hv (by omega) hz op (by rw[os];simp) og (by omega) hT hh) rfl rfl;rw[<- hQ]at hM;conv=>whnf
  cases r with
  |none =>
   refine⟨[5,100008,100009],_,hM,⟨rfl,rfl,rfl⟩,?_⟩;exact⟨rfl,rfl,rfl,⟨_,rfl⟩,⟨_,rfl⟩⟩
  |some o2 =>
   refine⟨[5,100008,100009],_,hM,⟨rfl,rfl,rfl⟩,?_⟩;conv=>whnf
   refine aM ?_;conv=>whnf
   exact⟨o2,rfl,aq.keep⟩
 rw[show(x.kind==1)=false by simp[k1]];rw[if_neg k1]at hk;conv=>whnf
 by_cases k2:x.kind=2
 .rw[show(x.kind==2)=true by simp[k2]];have hQ:r=mS o x:=by rw[hr];unfold uu;rw[if_neg k1,if_pos k2]
  have hM:=lift (cx' :=ir) (Qs o x hv (by omega) hz op (by rw[os];simp) og) rfl rfl;rw[<- hQ]at hM;conv=>whnf
  cases r with
  |none =>
   refine⟨[5,100008,100009],_,hM,⟨rfl,rfl,rfl⟩,?_⟩;exact⟨rfl,rfl,rfl,⟨_,rfl⟩,⟨_,rfl⟩⟩
  |some o2 =>
   refine⟨[5,100008,100009],_,hM,⟨rfl,rfl,rfl⟩,?_⟩;conv=>whnf
   refine aM ?_;conv=>whnf
   exact⟨o2,rfl,aq.keep⟩
 rw[show(x.kind==2)=false by simp[k2]];rw[if_neg k2]at hk;conv=>whnf
 by_cases k3:x.kind=3
 .rw[show(x.kind==3)=true by simp[k3]];rw[if_pos k3,aT]at hk;obtain⟨host,kb,ke⟩:∃host,x.ay=[host]/\bK o.w host=true:=by
   have h1:=hk.2;unfold qQ at h1;split at h1
   .rename_i n e;exact⟨n,e,h1⟩
   .cases h1
  have hQ:r=tO o x host:=by rw[hr];unfold uu;rw[if_neg k1,if_neg k2,if_pos k3];unfold Ao;rw[kb]
  have hM:=lift (cx' :=ir) (Pd o x host kb ke hv hn ks op (by rw[os];simp) og hz) rfl rfl;rw[<- hQ]at hM;conv=>whnf
  cases r with
  |none =>
   refine⟨[5,100008,100009],_,hM,⟨rfl,rfl,rfl⟩,?_⟩;exact⟨rfl,rfl,rfl,⟨_,rfl⟩,⟨_,rfl⟩⟩
  |some o2 =>
   refine⟨[5,100008,100009],_,hM,⟨rfl,rfl,rfl⟩,?_⟩;conv=>whnf
   refine aM ?_;conv=>whnf
   exact⟨o2,rfl,aq.keep⟩
 rw[show(x.kind==3)=false by simp[k3]];rw[if_neg k3]at hk;conv=>whnf
 by_cases k4:x.kind=4
 .rw[show(x.kind==4)=true by simp[k4]];rw[if_pos k4,aT,aT]at hk;obtain⟨hl,hT,hh⟩:=nN hk.1.2;have hQ:r=ri o x:=by rw[hr];unfold uu;rw[if_neg k1,if_neg k2,if_neg k3,if_pos k4]
  have hM:=lift (cx' :=ir) (Ox o x (by omega) (by omega) hT hh op (by rw[os];simp) og hz) rfl rfl;rw[<- hQ]at hM;conv=>whnf
  cases r with
  |none =>
   refine⟨[5,100008,100009],_,hM,⟨rfl,rfl,rfl⟩,?_⟩;exact⟨rfl,rfl,rfl,⟨_,rfl⟩,⟨_,rfl⟩⟩
  |some o2 =>
   refine⟨[5,100008,100009],_,hM,⟨rfl,rfl,rfl⟩,?_⟩;conv=>whnf
   refine aM ?_;conv=>whnf
   exact⟨o2,rfl,aq.keep⟩
 rw[if_neg k4]at hk;cases hk
theorem yT(z:aL)(s:Bs)(k:Int):mn z s k=match z.aj.findIdx? (is ⟨s,k⟩)with|some i=>z.aj[i]? |none=>none:=by
 unfold mn;rw[<- lO];rfl
def cn(l:List ao)(p:ao):List ao:=(l.filter λq=>(q.host != p.host)||(q.ah.af != p.ah.af))++(if p.ah.aj=[]then[]else[p])
def ji(w:aZ)(s:List ao):aZ:=⟨w.ay,s.foldl cn w.ai,w.anchor,w.hints⟩
theorem Kd(l:List ao)(p:ao):(cn l p).length<=l.length+1:=by
 unfold cn;rw[List.length_append];have:=List.length_filter_le (λq:ao=>(q.host != p.host)||(q.ah.af != p.ah.af)) l;split <;> simp <;> omega
theorem vi:∀(s:List ao) (l:List ao),(s.foldl cn l).length<=l.length+s.length
 |[],l=>by simp
 |p::t,l=>by
  have h1:=vi t (cn l p);have h2:=Kd l p;simp only[List.foldl_cons,List.length_cons];omega
def oh(zs:List ao)(af:Bs):Nat->Bs->Int
 |0,_=> -1
 |f+1,s=>if s=[46]then -1 else match gh zs (dx s)with
  |none=>oh zs af f (dx s)
  |some (k,p)=>if (wfR p.ah af 2).2=true then(k:Int)else -1
def oX(zs:List ao)(af:Bs):Int:=if bk af=true then oh zs af ((cF af).length+1) af else -1
theorem Fq(z:aL)(s:Bs)(k:Int)(hn:z.aj.length<=100000):NQ.Fn cx 13 [.agg (aX z),.str s,.int .i64 k] (.tuple [.agg ((cg (wfR z s k).1).map .d),.d (.bool (wfR z s k).2)]) []:=by
 refine aU bp mixed Tryz.func13 ?_;conv=>whnf
 have fA:=Kf z ⟨s,k⟩ hn;unfold atI at fA;have hw:wfR z s k=match z.aj.findIdx? (is ⟨s,k⟩)with|some i=>(match z.aj[i]? with|some x=>(x.set,true)|none=>(pq,false))|none=>(pq,false):=by
  unfold wfR;rw[yT];cases z.aj.findIdx? (is ⟨s,k⟩) <;> rfl
 rw[hw];cases hi:z.aj.findIdx? (is ⟨s,k⟩)with
 |none =>
  rw[hi]at fA
  (refine⟨_,_,fA,?_⟩;conv=>whnf)
  exact al rfl rfl
 |some i =>
  rw[hi]at fA;obtain⟨hE,_,_⟩:=List.findIdx?_eq_some_iff_getElem.1 hi
  (refine⟨_,_,fA,?_⟩;conv=>whnf)
  rw[show decide ((i:Int)<0)=false by simp];conv=>whnf
  refine⟨aD i,aw z.aj[i],aN (au hE),?_⟩;conv=>whnf
  refine al rfl ?_;dsimp only;rw[au hE];rfl
theorem Mw(w:aZ)(s:List ao)(hn:w.ai.length+s.length<=100000):NQ.Fn cx 34 [.agg (bu w),.agg (dD s)] (.agg ((bu (ji w s)).map .d)) []:=by
 refine eS (fun|13=>[57]|_=>[]) bp mixed Tryz.func34 ?_;conv=>whnf
 refine⟨Nat×aZ,λq=>⟨[(2,.ptr 2 0),(3,.ptr 3 0),(4,.ptr 4 0),(5,.d (.int .i64 q.1))],[(2,.box ((bu q.2).map .d)),(3,.box [.d (.slice 3 (s.map aR))]),(4,.box [.nil 3,.nil 3,.d (.str []),.d (.int .i64 0),.d (.int .i64 0),.nil 3,.nil 1])]⟩,λq=>q.1<=s.length/\q.2=ji w (s.take q.1),λq=>s.length-q.1,
  ⟨(0,w),⟨Nat.zero_le _,rfl⟩,aK.keep⟩,?_⟩
 rintro⟨k,wk⟩ ⟨hk,hY⟩;dsimp only at hk hY;have hz:wk.ai.length<=w.ai.length+k:=by
  have:=vi (s.take k) w.ai;rw[List.length_take]at this;rw[hY];show((s.take k).foldl cn w.ai).length<=_
  omega
 conv=>whnf
 refine ak (λh1=>?_) (λh1=>?_) <;> (rw[h1];conv=>whnf)
 .have hE:k<s.length:=by simp at h1;omega
  obtain⟨p,hp⟩:∃p,s[k]? =some p:=⟨_,au hE⟩
  refine⟨aD k,aR p,aN hp,?_⟩;conv=>whnf
  refine⟨Nat,λj=>⟨[(2,.ptr 2 0),(3,.ptr 3 0),(4,.ptr 4 0),(5,.d (.int .i64 k)),(6,.ptr 6 0),(7,.own 57),(8,.d (.int .i64 j))],[(57,.row 45 3 (((wk.ai.take j).filter λq=>(q.host != p.host)||(q.ah.af != p.ah.af)).map aR)),(2,.box ((bu wk).map .d)),(3,.box [.d (.slice 3 (s.map aR))]),(4,.box [.nil 3,.nil 3,.d (.str []),.d (.int .i64 0),.d (.int .i64 0),.nil 3,.nil 1]),(6,.box ((aR p).map .d))]⟩,λj=>j<=wk.ai.length,λj=>wk.ai.length-j,
   ⟨0,Nat.zero_le _,(aK.jV 7 57 3 45 3 rfl rfl (by decide)).trans (aK.keep)⟩,?_⟩
  intro j hj;conv=>whnf
  refine ak (λh2=>?_) (λh2=>?_) <;> (rw[h2];conv=>whnf)
  .have hR:j<wk.ai.length:=by simp at h2;omega
   obtain⟨q,hq⟩:∃q,wk.ai[j]? =some q:=⟨_,au hR⟩
   have ko:=List.length_filter_le (λq:ao=>(q.host != p.host)||(q.ah.af != p.ah.af)) (wk.ai.take j);rw[List.length_take]at ko;have hB:(wk.ai.take (j+1)).filter (λq=>(q.host != p.host)||(q.ah.af != p.ah.af))=(wk.ai.take j).filter (λq=>(q.host != p.host)||(q.ah.af != p.ah.af))++if ((q.host != p.host)||(q.ah.af != p.ah.af))=true then[q]else[]:=by
    rw[bP hq,List.filter_append,List.filter_cons,List.filter_nil]
   (refine bV ?_;conv=>whnf)
   refine⟨aD j,aR q,aN hq,?_⟩;conv=>whnf
   repeat' (first
    |(refine⟨aD j,aR q,aN hq,?_⟩;conv=>whnf)
    |(refine ak (λh=>?_) (λh=>?_) <;> (rw[h];conv=>whnf))|fail)
   iterate 2
    .have hc:((q.host != p.host)||(q.ah.af != p.ah.af))=true:=by simp_all
     rw[if_pos hc]at hB;have hW:((wk.ai.take (j+1)).filter (λq=>(q.host != p.host)||(q.ah.af != p.ah.af))).map aR=((wk.ai.take j).filter (λq=>(q.host != p.host)||(q.ah.af != p.ah.af))).map aR++[aR q]:=by rw[hB,List.map_append];rfl
     refine⟨by simp;omega,by simp;omega,?_⟩;conv=>whnf
     refine⟨j+1,hR,by(show wk.ai.length-(j+1)<wk.ai.length-j;omega),aK.keep ⟨ae,ae,ae,ae,ae,ae,⟨ax (k:=j) (by omega),rfl⟩,trivial⟩ ⟨⟨by rw[hW];rfl,rfl⟩,(by repeat' (first|exact trivial|refine⟨ae,?_⟩))⟩⟩
   .have hc:¬((q.host != p.host)||(q.ah.af != p.ah.af))=true:=by simp_all
    rw[if_neg hc,List.append_nil]at hB;refine⟨j+1,hR,by(show wk.ai.length-(j+1)<wk.ai.length-j;omega),aK.keep ⟨ae,ae,ae,ae,ae,ae,⟨ax (k:=j) (by omega),rfl⟩,trivial⟩ ⟨⟨by rw[hB];rfl,rfl⟩,(by repeat' (first|exact trivial|refine⟨ae,?_⟩))⟩⟩
  .obtain rfl:j=wk.ai.length:=by simp at h2;omega
   have ko:=List.length_filter_le (λq:ao=>(q.host != p.host)||(q.ah.af != p.ah.af)) wk.ai;have hL:ji w (s.take (k+1))=⟨wk.ay,cn wk.ai p,wk.anchor,wk.hints⟩:=by
    rw[hY];unfold ji;rw[bP hp,List.foldl_append];rfl
   refine ak (λh3=>?_) (λh3=>?_) <;> (rw[h3];conv=>whnf)
   .have hF:p.ah.aj≠[]:=by intro e;simp[e]at h3
    have hP:(cn wk.ai p).map aR=((wk.ai.take wk.ai.length).filter (λq=>(q.host != p.host)||(q.ah.af != p.ah.af))).map aR++[aR p]:=by
     rw[List.take_length];unfold cn;rw[if_neg hF,List.map_append];rfl
    refine⟨by simp;omega,by simp;omega,?_⟩;conv=>whnf
    refine⟨(k+1,_),⟨hE,hL.symm⟩,by(show s.length-(k+1)<s.length-k;omega),aK.keep ⟨ae,ae,ae,⟨ax (k:=k) (by omega),rfl⟩,trivial⟩ ⟨⟨?_,rfl⟩,(by repeat' (first|exact trivial|refine⟨ae,?_⟩))⟩⟩;show _=some (Blk.box [.d (.slice 3 (wk.ay.map fJ)),.d (.slice 3 ((cn wk.ai p).map aR)),.d (.str wk.anchor.name),.d (.int .i64 wk.anchor.type),.d (.int .i64 wk.anchor.aP),.d (.slice 3 (wk.anchor.data.map aQ)),.d (.slice 1 (wk.hints.map ky))])
    rw[hP];rfl
   .have hF:p.ah.aj=[]:=by
     cases e:p.ah.aj with
     |nil=>rfl
     |cons a t=>rw[e]at h3;simp at h3
    have hP:(cn wk.ai p).map aR=((wk.ai.take wk.ai.length).filter (λq=>(q.host != p.host)||(q.ah.af != p.ah.af))).map aR:=by
     rw[List.take_length];unfold cn;rw[if_pos hF,List.append_nil]
    refine⟨(k+1,_),⟨hE,hL.symm⟩,by(show s.length-(k+1)<s.length-k;omega),aK.keep ⟨ae,ae,ae,⟨ax (k:=k) (by omega),rfl⟩,trivial⟩ ⟨⟨?_,rfl⟩,(by repeat' (first|exact trivial|refine⟨ae,?_⟩))⟩⟩;show _=some (Blk.box [.d (.slice 3 (wk.ay.map fJ)),.d (.slice 3 ((cn wk.ai p).map aR)),.d (.str wk.anchor.name),.d (.int .i64 wk.anchor.type),.d (.int .i64 wk.anchor.aP),.d (.slice 3 (wk.anchor.data.map aQ)),.d (.slice 1 (wk.hints.map ky))])
    rw[hP];rfl
 .obtain rfl:k=s.length:=by simp at h1;omega
  rw[List.take_length]at hY;subst hY;exact al rfl rfl
theorem Mq(w:aZ)(a:Bs)(hv:∀p∈w.ai,bf p.ah=true)(hn:w.ai.length<=100000):NQ.Fn cx 16 [.agg (bu w),.str a] (.d (.int .i64 (oX w.ai a))) []:=by
 refine aU bp mixed Tryz.func16 ?_;conv=>whnf
 (refine⟨_,_,Mo a,?_⟩;conv=>whnf)
 refine ak (λh1=>?_) (λh1=>?_) <;> (rw[h1];conv=>whnf)
 .have hv:bk a=false:=by simpa using h1
  refine al rfl ?_;unfold oX;rw[if_neg (by rw[hv];decide)];rfl
 have hK:bk a=true:=by simpa using h1
 have kd:oh w.ai a ((cF a).length+1) a=oX w.ai a:=by unfold oX;rw[if_pos hK]
 refine⟨Bs,λm=>⟨[(1,.d (.str a)),(2,.ptr 2 0),(6,.d (.str m))],[(2,.box ((bu w).map .d))]⟩,λm=>bk m=true/\oh w.ai a ((cF m).length+1) m=oX w.ai a,λm=>(cF m).length,
  ⟨a,⟨hK,kd⟩,aK.keep⟩,λm ⟨hm,hD⟩=>?_⟩
 conv=>whnf
 rw[oh]at hD;refine ak (λh2=>?_) (λh2=>?_) <;> (rw[h2];conv=>whnf)
 .have hF:m≠[46]:=by intro e;simp[e]at h2
  rw[if_neg hF]at hD;have kS:=SR hm;have hlen:1<=(cF m).length:=by
   cases hl:cF m with
   |nil =>
    have:=oR m;rw[hl]at this;exact absurd this.symm hF
   |cons a t=>simp
  (refine⟨_,_,OX m (by have:=fo hm;omega),?_⟩;conv=>whnf)
  refine⟨by decide,by(show(1:Int)<=((cF m).map ck).length;rw[aA];omega),by(show(((cF m).map ck).length:Int)<=((cF m).map ck).length;omega),?_⟩;conv=>whnf
  have e:(((cF m).map ck).drop (1:Int).toNat).take ((((cF m).map ck).length:Int).toNat-(1:Int).toNat)=((cF m).tail).map ck:=by
   rw[List.take_of_length_le (by simp),List.map_tail, <- List.drop_one];rfl
  rw[e]
  (refine⟨_,_,Sn (cF m).tail (by simp;omega) (λx hx=>by have:=NY hm x (List.mem_of_mem_tail hx);omega),?_⟩;conv=>whnf)
  have ki:=qT hm;have hV:(cF (dx m)).length+1=(cF m).length:=by rw[sy hm,List.length_tail];omega
  have fC:=EW w.ai (dx m) hv hn;have kF:=EU w.ai (dx m);rw[<- hV]at hD;cases hc:gh w.ai (dx m)with
  |none =>
   rw[hc]at fC hD
   (refine⟨_,_,fC,?_⟩;conv=>whnf)
   exact⟨dx m,⟨ki,hD⟩,by(show(cF (dx m)).length<(cF m).length;omega),aK.keep⟩
  |some x =>
   obtain⟨k,p⟩:=x;rw[hc]at fC hD;have kf:=kF _ hc;dsimp only at kf hD
   (refine⟨_,_,fC,?_⟩;conv=>whnf)
   rw[show decide (Lt (some (k,p))<0)=false by(show decide ((k:Int)<0)=false);simp];conv=>whnf
   refine⟨aD k,aR p,aN kf,?_⟩;conv=>whnf
   (refine⟨_,_,Fq p.ah a 2 (by have:=(dA (hv p (aC kf))).1;omega),?_⟩;conv=>whnf)
   refine ak (λh3=>?_) (λh3=>?_) <;> (rw[h3];conv=>whnf)
   .rw[if_pos h3]at hD;refine al rfl ?_;rw[<- hD];rfl
   .rw[if_neg (by rw[h3];decide)]at hD;refine al rfl ?_;rw[<- hD];rfl
 .have hF:m=[46]:=by simpa using h2
  rw[if_pos hF]at hD;refine al rfl ?_;rw[<- hD];rfl
theorem eR(z:aL)(s:Bs)(k l:Int)(d:List Datum):(bL z s k l d).af=z.af:=rfl
theorem oS{since aO:Int}{y z:aL}(h:de since aO y=some z):(wfR y y.af 4).2=true/\(pJ (kq (wfR y y.af 4).1).n).2=0/\(wfR (eT y) (eT y).af 7).2=true/\(dw (wfR (eT y) (eT y).af 7).1).2=0/\bf (eT y)=true/\(eW (eT y)).2=0 /\
 (iL (eW (eT y)).1 (dw (wfR (eT y) (eT y).af 7).1).1 since aO).2=0/\bf z=true/\z=(iL (eW (eT y)).1 (dw (wfR (eT y) (eT y).af 7).1).1 since aO).1:=by
 unfold de at h;split at h
 case isFalse=>cases h
 rename_i h1;split at h
 .cases h
 rename_i h2;unfold lY at h;split at h
 case isFalse=>cases h
 rename_i h3;split at h
 .cases h
 rename_i h4;split at h
 .cases h
 rename_i h5;split at h
 .cases h
 rename_i h6;cases h;simp only[Bool.or_eq_true,bne_iff_ne,ne_eq,Bool.not_eq_true',not_or,Decidable.not_not,Bool.not_eq_false]at h2 h4 h5 h6;exact⟨h1,h2,h3,h4.1,h4.2,h5,h6.1,h6.2,rfl⟩
theorem eB{since aO:Int}{y z:aL}(h:de since aO y=some z):z.af=y.af:=by
 obtain⟨_,_,_,_,h5,h6,h7,_,rfl⟩:=oS h;have hc:(eW (eT y)).1.af=y.af:=by
  unfold eW at h6 ⊢;split at h6
  .cases h6
  .rename_i g1;rw[if_neg g1];split at h6
   .rename_i g2;exact absurd h6 (by simpa using g2)
   .rename_i g2;rw[if_neg g2];split at h6
    .cases h6
    .rename_i g3;rw[if_neg g3];rfl
 unfold iL at h7 ⊢;split at h7
 .cases h7
 .rename_i g1;rw[if_neg g1];split at h7
  .cases h7
  .rename_i g2;rw[if_neg g2];split at h7
   .cases h7
   .rename_i g3;rw[if_neg g3];exact hc
structure gr(P:ao->Prop)(n:Nat)(o:bz):Prop where
 num:o.bq.length<=n
 st:∀s∈o.bq,s≠[]/\s.length<=2000/\ ∀p∈s,P p
theorem gr.fin{P:ao->Prop}{n:Nat}{o:bz}(h:gr P n o)(hl:o.aF.length<=2000)(hp:∀p∈o.aF,P p){o' :bz}(e:o'.bq=o.bq++(if o.aF=[]then[]else[o.aF])):gr P (n+1) o' :=by
 refine⟨?_,λs hs=>?_⟩
 .rw[e,List.length_append];have:=h.num;split <;> simp <;> omega
 .rw[e]at hs;rcases List.mem_append.1 hs with hs|hs
  .exact h.st s hs
  .split at hs
   .cases hs
   .rename_i hF;rw[List.mem_singleton.1 hs];exact⟨hF,hl,hp⟩
theorem gr.more{P:ao->Prop}{n m:Nat}{o:bz}(h:gr P n o)(kD:n<=m):gr P m o:=⟨Nat.le_trans h.num kD,h.st⟩
theorem gr.mono{P Q:ao->Prop}{n:Nat}{o:bz}(h:gr P n o)(hq:∀p,P p->Q p):gr Q n o:=⟨h.num,λs hs=>⟨(h.st s hs).1,(h.st s hs).2.1,λp hp=>hq p ((h.st s hs).2.2 p hp)⟩⟩
def lB(w:aZ)(m:Nat)(g:List (Bs×List Int)):Prop:= ∀a,(bW g a).length<=m/\ ∀n∈bW g a,bK w n=true
theorem Jn(a b:Bs)(l:List Int):∀g:List (Bs×List Int),bW (cM b l g) a=if a=b then l else bW g a
 |[]=>by
  unfold bW cM bG;by_cases h:a=b
  .rw[if_pos h,if_pos h];rfl
  .rw[if_neg h,if_neg h];rfl
 |(k,v)::t=>by
  have ih:=Jn a b l t;unfold cM;by_cases hb:b=k
  .subst hb;rw[if_pos rfl];unfold bW bG;by_cases h:a=b
   .rw[if_pos h,if_pos h];rfl
   .rw[if_neg h,if_neg h,if_neg h]
  .rw[if_neg hb];unfold bW at ih ⊢;unfold bG;by_cases h:a=k
   .subst h;rw[if_pos rfl,if_neg (λe=>hb e.symm),if_pos rfl]
   .rw[if_neg h,if_neg h];exact ih
theorem xo{w:aZ}:∀(l:List ao) {g:List (Bs×List Int)} {m:Nat},lB w m g->(∀p∈l,bK w p.host=true)->lB w (m+l.length) (dF w g l)
 |[],g,m,h,_=>h
 |p::t,g,m,h,hp=>by
  show lB w (m+(t.length+1)) (dF w (kv w g p) t)
  rw[show m+(t.length+1)=(m+1)+t.length by omega];refine xo t (λa=>?_) λq hq=>hp q (bC _ hq)
  unfold kv;split
  .rw[Jn];split
   .rename_i e;have h1:=h p.ah.af;refine⟨by simp;omega,λn hn=>?_⟩;rcases List.mem_append.1 hn with hn|hn
    .exact h1.2 n hn
    .rw[List.mem_singleton.1 hn];exact hp p (List.mem_cons_self ..)
   .exact⟨by have:=(h a).1;omega,(h a).2⟩
  .exact⟨by have:=(h a).1;omega,(h a).2⟩
theorem xp(w:aZ):lB w 0 []:=λa=>⟨Nat.le_refl _,λn hn=>by cases hn⟩
theorem Bk{o:bz}{z:aL}{m:Nat}(hw:∀p∈o.w.ai,bK o.w p.host=true)(hg:lB o.w m o.got):(bT z o.w.ai++dN z (bW o.got z.af)).length<=o.w.ai.length+m/\ ∀p∈bT z o.w.ai++dN z (bW o.got z.af),p.ah=z/\bK o.w p.host=true:=by
 refine⟨?_,λp hp=>?_⟩
 .have h1:=List.length_filter_le (λp:ao=>p.ah.af==z.af) o.w.ai;have h2:=(hg z.af).1;unfold bT dN;rw[List.length_append,aA,aA];omega
 .rcases List.mem_append.1 hp with hp|hp
  .unfold bT at hp;obtain⟨q,hq,rfl⟩:=List.mem_map.1 hp;exact⟨rfl,hw q (List.mem_filter.1 hq).1⟩
  .unfold dN at hp;obtain⟨n,hn,rfl⟩:=List.mem_map.1 hp;exact⟨rfl,(hg z.af).2 n hn⟩
def sg(w:aZ)(A:List Bs)(p:ao):Prop:=bK w p.host=true/\p.ah.af∈A
theorem QA{o o2:bz}{x:bA}(h:rL o x=some o2)(hw:∀p∈o.w.ai,bK o.w p.host=true)(hn:o.w.ai.length<=20)(hz:o.ah.af=x.ah)(hh:∀n∈x.ay,bK o.w n=true)(hl:x.ay.length<=8)(hs:o.bq=[])(hg:o.got=[]) :
 gr (sg o.w [x.ah,(cH o.w.ai x.ah).1.af]) 3 o2:=by
 unfold rL at h;split at h
 case isFalse=>cases h
 generalize cH o.w.ai x.ah=ab at h
 unfold tv at h;split at h
 .cases h
 rename_i z1 hZ;split at h
 .cases h
 rename_i z2 kl;cases h;have a1:z1.af=x.ah:=by rw[eB hZ];unfold tr;rw[iw,eR];exact hz
 have a2:z2.af=ab.1.af:=by rw[eB kl];unfold tr;rw[iw,eR]
 have ka:=Jm o x x.ay;have g0:∀p∈eF o x x.ay,sg o.w [x.ah,ab.1.af] p:=λp hp=>by
  unfold eF at hp;obtain⟨n,hn,rfl⟩:=List.mem_map.1 hp;exact⟨hh n (List.mem_filter.1 hn).1,by rw[show(⟨n,o.ah⟩:ao).ah.af=o.ah.af from rfl,hz];exact List.mem_cons_self ..⟩
 have s0:gr (sg o.w [x.ah,ab.1.af]) 0 {o with aF:=eF o x x.ay}:=⟨by rw[show({o with aF:=eF o x x.ay}:bz).bq=o.bq from rfl,hs];exact Nat.le_refl _,λs kt =>by rw[show({o with aF:=eF o x x.ay}:bz).bq=o.bq from rfl,hs]at kt;cases kt⟩
 have s1:=s0.fin (o' :=eJ {o with aF:=eF o x x.ay}) (by(show(eF o x x.ay).length<=2000);omega) g0 rfl;have gk:lB o.w (0+(eF o x x.ay).length) (eJ {o with aF:=eF o x x.ay}).got:=by
  show lB o.w _ (dF o.w o.got (eF o x x.ay))
  rw[hg];exact xo _ (xp _) λp hp=>(g0 p hp).1
 obtain⟨l1,p1⟩:=Bk (o:=eJ {o with aF:=eF o x x.ay}) (z:=z1) hw gk;obtain⟨l2,p2⟩:=Bk (o:=aS (eJ {o with aF:=eF o x x.ay}) z1) (z:=z2) hw gk;have ew:(eJ {o with aF:=eF o x x.ay}).w=o.w:=rfl;have kz:(aS (eJ {o with aF:=eF o x x.ay}) z1).w=o.w:=rfl;rw[ew]at l1 p1;rw[kz]at l2 p2;have ep:(aS (aS (eJ {o with aF:=eF o x x.ay}) z1) z2).aF=(bT z1 o.w.ai++dN z1 (bW (eJ {o with aF:=eF o x x.ay}).got z1.af))++(bT z2 o.w.ai++dN z2 (bW (aS (eJ {o with aF:=eF o x x.ay}) z1).got z2.af)):=by
  show(([]++bT z1 _++dN z1 _)++bT z2 _++dN z2 _)=_
  simp[List.append_assoc];rfl
 have s2:=gr.fin (o:=aS (aS (eJ {o with aF:=eF o x x.ay}) z1) z2) (o' :=cy (aS (aS (eJ {o with aF:=eF o x x.ay}) z1) z2)) ⟨s1.num,s1.st⟩ (by rw[ep,List.length_append];omega) (λp hp=>by
  rw[ep]at hp;rcases List.mem_append.1 hp with hp|hp
  .obtain⟨e1,e2⟩:=p1 p hp;exact⟨e2,by rw[e1,a1];exact List.mem_cons_self ..⟩
  .obtain⟨e1,e2⟩:=p2 p hp;exact⟨e2,by rw[e1,a2];simp⟩) rfl
 have kj:=GF x o.w.ai;refine gr.fin (o:={cy (aS (aS (eJ {o with aF:=eF o x x.ay}) z1) z2)with aF:=gT x o.w.ai}) (n:=2) ⟨s2.num,s2.st⟩ (by(show(gT x o.w.ai).length<=2000);omega) (λp hp=>?_) rfl;have hp:p∈gT x o.w.ai:=hp;unfold gT at hp;obtain⟨q,hq,rfl⟩:=List.mem_map.1 hp;exact⟨hw q (List.mem_filter.1 hq).1,List.mem_cons_self ..⟩
theorem pW{o:bz}{z:aL}{P:ao->Prop}{n m:Nat}(h:gr P n o)(hU:o.aF=[])(hw:∀p∈o.w.ai,bK o.w p.host=true)(hg:lB o.w m o.got)(hm:o.w.ai.length+m<=2000)(hP:∀p:ao,p.ah=z->bK o.w p.host=true->P p):gr P (n+1) (cy (aS o z)):=by
 obtain⟨l1,p1⟩:=Bk (o:=o) (z:=z) hw hg;have ep:(aS o z).aF=bT z o.w.ai++dN z (bW o.got z.af):=by
  show o.aF++bT z _++dN z _=_
  rw[hU,List.nil_append]
 refine gr.fin (o:=aS o z) (o' :=cy (aS o z)) ⟨h.num,h.st⟩ (by rw[ep];omega) (λp hp=>?_) rfl;rw[ep]at hp;exact hP p (p1 p hp).1 (p1 p hp).2
theorem Cq{P:ao->Prop}{o:bz}(h:o.bq=[]):gr P 0 o:=⟨by rw[h];exact Nat.le_refl _,λs hs=>by rw[h]at hs;cases hs⟩
theorem Qr{o o2:bz}{x:bA}(h:mS o x=some o2)(hw:∀p∈o.w.ai,bK o.w p.host=true)(hn:o.w.ai.length<=20)(hz:o.ah.af=x.ah)(hs:o.bq=[])(hU:o.aF=[])(hg:o.got=[]) :
 gr (sg o.w [x.ah,(cH o.w.ai x.ah).1.af]) 3 o2:=by
 unfold mS at h;split at h
 case isFalse=>cases h
 generalize cH o.w.ai x.ah=ab at h
 unfold wj at h;split at h
 case isFalse=>cases h
 split at h
 .cases h
 rename_i z hZ;unfold nP at h;split at h
 case isFalse=>cases h
 split at h
 .cases h
 rename_i z2 kl;unfold tj at h;split at h
 .cases h
 rename_i z3 kQ;cases h;have a1:z.af=x.ah:=by rw[eB hZ,eR];exact hz
 have a2:z2.af=ab.1.af:=by rw[eB kl,eR]
 have a3:z3.af=x.ah:=by rw[eB kQ,eR];exact a1
 have g:lB o.w 0 o.got:=by rw[hg];exact xp _
 have s1:=pW (z:=z) (Cq (P:=sg o.w [x.ah,ab.1.af]) hs) hU hw g (by omega) λp e1 e2=>⟨e2,by rw[e1,a1];exact List.mem_cons_self ..⟩
 have s2:=pW (z:=z2) s1 rfl hw g (by(show o.w.ai.length+0<=2000);omega) λp e1 e2=>⟨e2,by rw[e1,a2];simp⟩
 exact pW (z:=z3) s2 rfl hw g (by(show o.w.ai.length+0<=2000);omega) λp e1 e2=>⟨e2,by rw[e1,a3];exact List.mem_cons_self ..⟩
theorem Ow{o o2:bz}{x:bA}(h:ri o x=some o2)(hw:∀p∈o.w.ai,bK o.w p.host=true)(hn:o.w.ai.length<=20)(hz:o.ah.af=x.ah)(hh:∀n∈x.ay,bK o.w n=true)(hl:x.ay.length<=8)(hs:o.bq=[])(hU:o.aF=[])(hg:o.got=[]) :
 gr (sg o.w [x.ah,x.name]) 2 o2:=by
 unfold ri at h;split at h
 case isFalse=>cases h
 split at h
 .cases h
 rename_i part kK;unfold qv qw at h;split at h
 .cases h
 rename_i z hZ;cases h;have a0:part.af=x.name:=by
  rw[eB kK];unfold Sc;rw[iw];rfl
 have a1:z.af=x.ah:=by
  rw[eB hZ];unfold GB;rw[iw];exact hz
 have g0:∀p∈ej part x.ay,sg o.w [x.ah,x.name] p:=λp hp=>by
  unfold ej at hp;obtain⟨n,hn,rfl⟩:=List.mem_map.1 hp;exact⟨hh n hn,by rw[show(⟨n,part⟩:ao).ah.af=part.af from rfl,a0];simp⟩
 have hV:(ej part x.ay).length=x.ay.length:=by unfold ej;rw[aA]
 have s1:=gr.fin (o:={o with aF:=ej part x.ay}) (o' :=eJ {o with aF:=ej part x.ay}) (Cq (P:=sg o.w [x.ah,x.name]) hs) (by(show(ej part x.ay).length<=2000);omega) g0 rfl;have gk:lB o.w (0+(ej part x.ay).length) (eJ {o with aF:=ej part x.ay}).got:=by
  show lB o.w _ (dF o.w o.got (ej part x.ay))
  rw[hg];exact xo _ (xp _) λp hp=>(g0 p hp).1
 exact pW (o:=eJ {o with aF:=ej part x.ay}) (z:=z) s1 rfl hw gk (by(show o.w.ai.length+_<=2000);omega) λp e1 e2=>⟨e2,by rw[e1,a1];exact List.mem_cons_self ..⟩
theorem yI{o:bz}{x:bA}{ad:Datum}{m:Nat}(hw:∀p∈o.w.ai,bK o.w p.host=true)(hg:lB o.w m o.got):∀(l:List Bs) {ps qs:List ao},mi o x ad l ps=some qs->(∀p∈ps,bK o.w p.host=true)->qs.length<=ps.length+l.length*(o.w.ai.length+m)/\ ∀p∈qs,bK o.w p.host=true
 |[],ps,qs,h,hp=>by
  unfold mi at h;cases h;exact⟨by simp,hp⟩
 |a::t,ps,qs,h,hp=>by
  unfold mi at h;split at h
  .split at h
   .cases h
   .rename_i z hz;obtain⟨l1,p1⟩:=Bk (o:=o) (z:=z) hw hg;have:=yI hw hg t h (λp hS =>by
     simp only[List.append_assoc]at hS;rcases List.mem_append.1 hS with hS |hS
     .exact hp p hS
     .exact(p1 p hS).2)
    refine⟨?_,this.2⟩;have h1:=this.1;simp only[List.length_append,List.length_cons,Nat.add_mul]at h1 l1 ⊢;omega
  .have:=yI hw hg t h hp;refine⟨?_,this.2⟩;have h1:=this.1;simp only[List.length_cons,Nat.add_mul];omega
theorem Pc{o o2:bz}{x:bA}{host:Int}(h:tO o x host=some o2)(hw:∀p∈o.w.ai,bK o.w p.host=true)(hn:o.w.ai.length<=20)(hh:bK o.w host=true)(hs:o.bq=[])(hU:o.aF=[])(hg:o.got=[]) :
 gr (λp=>bK o.w p.host=true) 3 o2:=by
 unfold tO at h;split at h
 case isFalse=>cases h
 unfold Ep at h;generalize ka:fb o host (dH (λp=>(oE (wfR o.ah x.name 1).1.data host 0 o.w.ay).contains p.host) o.w.ai)=gl at h;generalize oE (wfR o.ah x.name 1).1.data host 0 o.w.ay=om at h ka;have kC:gl.length<=20:=by
  rw[<- ka];have:=FB o host (dH (λp=>om.contains p.host) o.w.ai);have:=oo (λp=>om.contains p.host) o.w.ai;omega
 have g0:∀p∈gl,bK o.w p.host=true:=λp hp=>by
  rw[<- ka]at hp;unfold fb at hp;obtain⟨n,hn,rfl⟩:=List.mem_map.1 hp;exact hh
 unfold vh at h;split at h
 .cases h
 rename_i ps kJ;cases h;have s1:=gr.fin (o:={o with aF:=gl}) (o' :=eJ {o with aF:=gl}) (Cq (P:=λp=>bK o.w p.host=true) hs) (by(show gl.length<=2000);omega) g0 rfl;have gk:lB o.w (0+gl.length) (eJ {o with aF:=gl}).got:=by
  show lB o.w _ (dF o.w o.got gl)
  rw[hg];exact xo _ (xp _) g0
 have hV:=yI (o:=eJ {o with aF:=gl}) hw gk _ kJ (λp hp=>by cases hp);have kR:=oo (λ_=>true) o.w.ai;have hlen:ps.length<=2000:=by
  have h1:=hV.1;have h2:(dH (λ_=>true) (eJ {o with aF:=gl}).w.ai).length*((eJ {o with aF:=gl}).w.ai.length+(0+gl.length))<=20*40:=Nat.mul_le_mul (by(show(dH (λ_=>true) o.w.ai).length<=20);omega) (by(show o.w.ai.length+(0+gl.length)<=40);omega);simp only[List.length_nil]at h1;omega
 have s2:=gr.fin (o:={eJ {o with aF:=gl}with aF:=ps}) (o' :=cy {eJ {o with aF:=gl}with aF:=ps}) ⟨s1.num,s1.st⟩ hlen hV.2 rfl;have kj:=Dk om o.w.ai;refine gr.fin (o:={cy {eJ {o with aF:=gl}with aF:=ps}with aF:=iU om o.w.ai}) ⟨s2.num,s2.st⟩ (by(show(iU om o.w.ai).length<=2000);omega) (λp hp=>?_) rfl;have hp:p∈iU om o.w.ai:=hp;unfold iU at hp;obtain⟨q,hq,rfl⟩:=List.mem_map.1 hp;exact hw q (List.mem_filter.1 hq).1
theorem Qg{w:aZ}{n:Int}(h1:0<=n)(h2:n<(w.ay.length:Int)):bK w n=true:=by
 unfold bK;simp[h1,h2]
theorem JM{w:aZ}{x:bA}{since aO:Int}{o:bz}(h:nh w x since aO=some o)(kO:fm w=true)(hx:fQ w x=true)(hn:w.ai.length<=20) :
 gr (λp=>bK w p.host=true) 3 o/\(x.kind=1\/x.kind=2->gr (sg w [x.ah,(cH w.ai x.ah).1.af]) 3 o)/\(x.kind=4->gr (sg w [x.ah,x.name]) 3 o)/\(x.kind=1\/x.kind=2->(cH w.ai x.ah).2=true)/\(x.kind=1\/x.kind=2\/x.kind=3\/x.kind=4):=by
 have hw:∀p∈w.ai,bK w p.host=true:=λp hp=>by
  obtain⟨_,h1,h2⟩:=gN kO p hp;exact Qg h1 h2
 unfold fQ at hx;simp only[aT,Bool.not_eq_true',Bool.or_eq_false_iff,Bool.not_eq_false']at hx;obtain⟨_,hc,hk⟩:=hx;have km:(bS w.ai x.ah).1.af=x.ah:=by
  rcases eX w.ai x.ah with ⟨p,hp,e,ea⟩|⟨e,_⟩
  .rw[e];exact ea
  .rw[e]at hc;cases hc
 unfold nh at h;split at h
 case isFalse=>cases h
 unfold uu at h;unfold kB at hk;by_cases k1:x.kind=1
 .rw[if_pos k1]at h;rw[if_pos k1,aT]at hk;obtain⟨hl,hT,hh⟩:=nN hk.2;have kc:(cH w.ai x.ah).2=true:=by
   unfold rL at h;split at h
   .assumption
   .cases h
  have:=QA h hw hn km hh hl rfl rfl;exact⟨this.mono λp hp=>hp.1,λ_=>this,λe=>by omega,λ_=>kc,.inl k1⟩
 rw[if_neg k1]at h hk;by_cases k2:x.kind=2
 .rw[if_pos k2]at h;have kc:(cH w.ai x.ah).2=true:=by
   unfold mS at h;split at h
   .assumption
   .cases h
  have:=Qr h hw hn km rfl rfl rfl;exact⟨this.mono λp hp=>hp.1,λ_=>this,λe=>by omega,λ_=>kc,.inr (.inl k2)⟩
 rw[if_neg k2]at h hk;by_cases k3:x.kind=3
 .rw[if_pos k3]at h;rw[if_pos k3,aT]at hk;obtain⟨host,kb,ke⟩:∃host,x.ay=[host]/\bK w host=true:=by
   have h1:=hk.2;unfold qQ at h1;split at h1
   .rename_i n e;exact⟨n,e,h1⟩
   .cases h1
  have e:Ao x=host:=by unfold Ao;rw[kb]
  rw[e]at h;have:=Pc h hw hn ke rfl rfl rfl;exact⟨this,λe=>by omega,λe=>by omega,λe=>by omega,.inr (.inr (.inl k3))⟩
 rw[if_neg k3]at h hk;by_cases k4:x.kind=4
 .rw[if_pos k4]at h;rw[if_pos k4,aT,aT]at hk;obtain⟨hl,hT,hh⟩:=nN hk.1.2;have:=Ow h hw hn km hh hl rfl rfl rfl;exact⟨(this.mono λp hp=>hp.1).more (by decide),λe=>by omega,λ_=>this.more (by decide),λe=>by omega,.inr (.inr (.inr k4))⟩
 rw[if_neg k4]at hk;cases hk
theorem uJ{z:aL}(hv:bf z=true):cO z=fP z:=by
 have ho:=bO hv;obtain⟨k,s,hk,hs,hp⟩:=RM (xM.1 hv).start;unfold cO fP;rw[MB ho.rising.pw hs hp,hs,yT];unfold atI at hk;cases hf:z.aj.findIdx? (is ⟨z.af,4⟩)with
 |none=>rw[hf]at hk;dsimp only at hk;omega
 |some i =>
  rw[hf]at hk;have:i=k:=by dsimp only at hk;omega
  subst this;dsimp only;rw[hs];cases hd:s.set.data <;> simp[hd]
theorem zT{p q:ao}(hp:bf p.ah=true)(hq:bf q.ah=true):(vv q p<0) ↔ kT p q=true:=by
 unfold vv;rw[yo hp hq,uJ hp,uJ hq];unfold dB;simp only[Bool.or_eq_true,aT,decide_eq_true_eq];split <;> split <;> (try split) <;> (try split) <;> (try split) <;> omega
theorem EH(a:Bs):∀(l:List ao) (i:Nat) (b:Option (Nat×ao)),(∀p∈l,bf p.ah=true)->(∀x,b=some x->bf x.2.ah=true)->lC a b i l=jP (λp=>p.ah.af==a) kT i l b
 |[],i,b,_,_=>rfl
 |p::t,i,b,hl,hb=>by
  have hp:=hl p (List.mem_cons_self ..);have e:mj a b i p=fD (λp=>p.ah.af==a) kT i p b:=by
   unfold mj fD;by_cases h:p.ah.af=a
   .rw[if_neg (by simp[h]),if_pos (by simp[h])];cases b with
    |none=>rfl
    |some x =>
     obtain⟨j,q⟩:=x;have hq:=hb _ rfl;dsimp only;by_cases hc:vv q p<0
     .rw[if_pos hc,if_pos ((zT hp hq).1 hc)]
     .rw[if_neg hc,if_neg (λh=>hc ((zT hp hq).2 h))]
   .rw[if_pos (by simp[h]),if_neg (by simp[h])]
  show lC a (mj a b i p) (i+1) t=jP _ kT (i+1) t (fD (λp=>p.ah.af==a) kT i p b)
  rw[<- e];refine EH a t (i+1) _ (λq hq=>hl q (bC _ hq)) λx hx=>?_
  unfold mj at hx;split at hx
  .exact hb x hx
  .split at hx
   .cases hx;exact hp
   .split at hx
    .cases hx;exact hp
    .cases hx;exact hb _ rfl
theorem tY{zs:List ao}(hv:∀p∈zs,bf p.ah=true)(a:Bs):tX zs a=gh zs a:=EH a zs 0 none hv λx hx=>by cases hx
theorem Cv(a:Bs):∀(l:List ao) (i:Nat) (b x:Option (Nat×ao)),(∀y,b=some y->y.2.ah.af=a)-> ∀y,jP (λp=>p.ah.af==a) kT i l b=some y->y.2.ah.af=a
 |[],i,b,_,hb,y,h=>hb y h
 |p::t,i,b,x,hb,y,h=>by
  refine Cv a t (i+1) _ x (λz hz=>?_) y h;split at hz
  .rename_i hp;split at hz
   .cases hz;simpa using hp
   .split at hz
    .cases hz;simpa using hp
    .exact hb z hz
  .exact hb z hz
theorem eu{zs:List ao}{a:Bs}{k:Nat}{p:ao}(h:gh zs a=some (k,p)):zs[k]? =some p/\p.ah.af=a:=⟨EU zs a _ h,Cv a zs 0 none none (λy hy=>by cases hy) _ h⟩
theorem Aa{zs:List ao}{a:Bs}(h:gh zs a=none):∀p∈zs,p.ah.af≠a:=λp hp e=>by
 have:=((Cw zs 0 none).1 h).2 p hp;simp[e]at this
theorem Je{zs:List ao}(hv:∀p∈zs,bf p.ah=true){a:Bs}{k:Nat}{p:ao}(h:gh zs a=some (k,p)):bS zs a=(p.ah,true):=by
 unfold bS;rw[tY hv,h]
theorem Mc{n a b:Bs}(ha:bE n a=true)(hb:bE n b=true):bE a b=true\/bE b a=true:=by
 unfold bE at *
 rw[List.isSuffixOf_iff_suffix]at ha hb ⊢;rw[List.isSuffixOf_iff_suffix];rcases List.suffix_or_suffix_of_suffix ha hb with h|h
 .exact .inr h
 .exact .inl h
def tK(af a:Bs)(l:List ao):Prop:=(∃p∈l,p.ah.af=a)/\a≠af/\bE af a=true/\ ∀p∈l,p.ah.af≠af->bE af p.ah.af=true->bE a p.ah.af=true
theorem tL{af:Bs}(hK:bk af=true):∀(l:List ao),(∀p∈l,bk p.ah.af=true)-> ∀(pre:List ao) (x:Bs×Bool),(∀p∈pre,bk p.ah.af=true) ->
 (x.2=true->tK af x.1 pre)->(x.2=false-> ∀p∈pre,p.ah.af≠af->bE af p.ah.af=false) ->
 ((l.foldl (jh af) x).2=true->tK af (l.foldl (jh af) x).1 (pre++l))/\((l.foldl (jh af) x).2=false-> ∀p∈pre++l,p.ah.af≠af->bE af p.ah.af=false)
 |[],_,pre,x,_,h1,h2=>by
  rw[List.append_nil];exact⟨h1,h2⟩
 |p::t,hl,pre,x,hpre,h1,h2=>by
  have hp:=hl p (List.mem_cons_self ..);have hu:(bJ af p.ah.af).1=bE af p.ah.af:=by unfold bJ;rw[if_pos ⟨hK,hp⟩]
  have e:pre++p::t=(pre++[p])++t:=by simp
  rw[e,List.foldl_cons];refine tL hK t (λq hq=>hl q (bC _ hq)) (pre++[p]) (jh af x p) (λq hq=>?_) (λhx=>?_) λhx=>?_
  .rcases List.mem_append.1 hq with hq|hq
   .exact hpre q hq
   .rw[List.mem_singleton.1 hq];exact hp
  .unfold jh at hx ⊢;rw[hu]at hx ⊢;split at hx
   .rename_i hc;rw[if_pos hc];simp only[aT,bne_iff_ne,ne_eq,Bool.or_eq_true,Bool.not_eq_true']at hc;refine⟨⟨p,List.mem_append.2 (.inr (List.mem_cons_self ..)),rfl⟩,hc.1.1,hc.1.2,λq hq hG hI=>?_⟩;rcases List.mem_append.1 hq with hq|hq
    .rcases hc.2 with hf|hf
     .rw[h2 hf q hq hG]at hI;cases hI
     .cases hx2:x.2 with
      |false=>rw[h2 hx2 q hq hG]at hI;cases hI
      |true =>
       obtain⟨⟨y,hy,ey⟩,_,_,h4⟩:=h1 hx2;have kk:bk x.1=true:=by rw[<- ey];exact hpre y hy
       have:bE p.ah.af x.1=true:=by
        unfold bJ at hf;rw[if_pos ⟨hp,kk⟩]at hf;exact hf
       exact yz this (h4 q hq hG hI)
    .rw[List.mem_singleton.1 hq];exact sM _
   .rename_i hc;rw[if_neg hc];obtain⟨⟨y,hy,ey⟩,g2,g3,g4⟩:=h1 hx;refine⟨⟨y,List.mem_append.2 (.inl hy),ey⟩,g2,g3,λq hq hG hI=>?_⟩;rcases List.mem_append.1 hq with hq|hq
    .exact g4 q hq hG hI
    .rw[List.mem_singleton.1 hq]at hG hI ⊢;have kk:bk x.1=true:=by rw[<- ey];exact hpre y hy
     have kg:bE p.ah.af x.1=false:=by
      cases h:bE p.ah.af x.1 with
      |false=>rfl
      |true =>
       exfalso
       refine hc ?_;have:(bJ p.ah.af x.1).1=true:=by unfold bJ;rw[if_pos ⟨hp,kk⟩];exact h
       rw[this,hI];simp[hG]
     rcases Mc g3 hI with h|h
     .exact h
     .rw[kg]at h;cases h
  .unfold jh at hx;rw[hu]at hx;split at hx
   .cases hx
   .rename_i hc;intro q hq hG;rcases List.mem_append.1 hq with hq|hq
    .exact h2 hx q hq hG
    .rw[List.mem_singleton.1 hq]at hG ⊢;cases h:bE af p.ah.af with
     |false=>rfl
     |true =>
      exfalso
      refine hc ?_;rw[h,hx];simp[hG]
theorem xR{zs:List ao}{af a:Bs}(hv:∀p∈zs,bf p.ah=true)(ht:tK af a zs):∀(f:Nat) (m:Bs),bk m=true->bE af m=true->bE m a=true->m≠a->(cF m).length<f ->
 ∃k p,gh zs a=some (k,p)/\oh zs af f m=if (wfR p.ah af 2).2=true then(k:Int)else -1
 |0,m,_,_,_,_,hf=>by omega
 |f+1,m,hm,hum,hma,hF,hf=>by
  obtain⟨k1,k2,k3⟩:=GO hm hma hF;obtain⟨⟨y,hy,ey⟩,g2,g3,g4⟩:=ht;have ki:=qT hm;rw[oh,if_neg k1];have ku:bE af (dx m)=true:=yz hum (wy hm);by_cases kh:dx m=a
  .rw[kh];cases hc:gh zs a with
   |none=>exact absurd ey (Aa hc y hy)
   |some x =>
    obtain⟨k,p⟩:=x;exact⟨k,p,rfl,rfl⟩
  .cases hc:gh zs (dx m)with
   |some x =>
    exfalso
    obtain⟨k,p⟩:=x;obtain⟨e1,e2⟩:=eu hc;have kG:=aC e1;have kI:p.ah.af≠af:=λe=>by
     rw[e2]at e;have h1:bE (dx m) m=true:=by rw[e];exact hum
     have h2:=uU h1 (wy hm);rw[h2]at k3;omega
    have:=g4 p kG kI (by rw[e2];exact ku);rw[e2]at this;exact kh (uU k2 this)
   |none=>exact xR hv ⟨⟨y,hy,ey⟩,g2,g3,g4⟩ f (dx m) ki ku k2 kh (by omega)
theorem Mp{zs:List ao}{af:Bs}(hv:∀p∈zs,bf p.ah=true)(hK:bk af=true)(h:(cH zs af).2=true):∃(k:Nat) (p:ao),oX zs af=k/\zs[k]? =some p/\(cH zs af).1=p.ah:=by
 have kN:∀p∈zs,bk p.ah.af=true:=λp hp=>(bO (hv p hp)).af
 have hX:=(tL hK zs kN [] ([],false) (λp hp=>by cases hp) (λh=>by cases h) (λ_ p hp=>by cases hp)).1;rw[List.nil_append]at hX;unfold cH at h ⊢;split at h
 case isFalse=>cases h
 rename_i h1;rw[if_pos h1];have ht:=hX h1;split at h
 case isFalse=>cases h
 rename_i h2;rw[if_pos h2];have kM:bE af (dQ af zs).1=true:=ht.2.2.1;obtain⟨k,p,hc,hg⟩:=xR hv ht ((cF af).length+1) af hK (sM _) kM (λe=>ht.2.1 e.symm) (by omega);have kA:=Je hv hc;have e1:(dQ af zs).1=(List.foldl (jh af) ([],false) zs).1:=rfl;rw[e1]at h2 ⊢;rw[kA]at h2 ⊢;dsimp only at h2;rw[if_pos h2]at hg;refine⟨k,p,?_,(eu hc).1,rfl⟩;unfold oX;rw[if_pos hK];exact hg
theorem we{s:Bs}{k:Int}{x:Signed}:isF s k x=true ↔ x.place=(s,k):=by
 unfold isF Signed.place;simp
theorem yN{s:Bs}{k:Int}:∀{l:List Signed},RP l->l.countP (isF s k)<=1
 |[],_=>by simp
 |x::t,h=>by
  obtain⟨h1,h2⟩:=List.pairwise_cons.1 h;rw[List.countP_cons];split
  .rename_i hx;have:t.countP (isF s k)=0:=by
    rw[List.countP_eq_zero];exact λy hy hk=>vB (h1 y hy) ((we.1 hx).trans (we.1 hk).symm)
   omega
  .have:=yN (s:=s) (k:=k) h2;omega
theorem Fo{p:Signed->Bool}:∀{l:List Signed} {x:Signed},l.countP p<=1->x∈l->p x=true->l.find? p=some x
 |[],_,_,hm,_=>by cases hm
 |y::t,x,h,hm,hp=>by
  rw[List.countP_cons]at h;by_cases hy:p y=true
  .rw[if_pos hy]at h;have h0:t.countP p=0:=by omega
   rw[List.find?_cons,hy];rcases List.mem_cons.1 hm with e|hm
   .rw[e]
   .exact absurd hp (List.countP_eq_zero.1 h0 x hm)
  .rw[List.find?_cons,show p y=false by simpa using hy];rcases List.mem_cons.1 hm with e|hm
   .rw[e]at hp;exact absurd hp hy
   .exact Fo (by omega) hm hp
theorem Fs{p:Signed->Bool}{x:Signed}(hx:p x=false):∀{l:List Signed} {i:Nat} {y:Signed},l[i]? =some y->p y=false->(l.set i x).find? p=l.find? p
 |y::t,0,z,h,hz=>by
  have h:y=z:=by simpa using h
  rw[List.set_cons_zero,List.find?_cons,List.find?_cons,hx,h,hz]
 |y::t,i+1,z,h,hz=>by
  rw[List.set_cons_succ,List.find?_cons,List.find?_cons,Fs hx (by simpa using h) hz]
theorem MX{l:List Signed}{x:Signed}{h:Nat}(e:ud l x h=true):∃y,l[h]? =some y/\y.set.type=x.set.type:=by
 unfold ud at e;split at e
 .rename_i y hy;refine⟨y,hy,?_⟩;unfold wH dB at e;rw[beq_iff_eq]at e;split at e
  .split at e
   .cases e
   .split at e
    .cases e
    .omega
  .contradiction
 .cases e
theorem vl(z:aL)(s:Bs)(k aP:Int)(d:List Datum):(∃i y,z.aj[i]? =some y/\y.set.type=k/\(bL z s k aP d).aj=z.aj.set i (eN z s k aP d))\/ ∃i,(bL z s k aP d).aj=z.aj.take i++[eN z s k aP d]++z.aj.drop i:=by
 by_cases h:ud z.aj (eN z s k aP d) (bsW z.aj (eN z s k aP d))=true
 .obtain⟨y,hy,ht⟩:=MX h;exact .inl ⟨_,y,hy,ht,by unfold bL;rw[if_pos h]⟩
 .exact .inr ⟨_,by unfold bL;rw[if_neg h]⟩
theorem IW(z:aL)(s:Bs)(k aP:Int)(d:List Datum):isF s k (eN z s k aP d)=true:=we.2 rfl
theorem IX(z:aL)(s:Bs)(k aP:Int)(d:List Datum):eN z s k aP d∈(bL z s k aP d).aj:=by
 rcases vl z s k aP d with ⟨i,y,h,_,e⟩|⟨i,e⟩
 .rw[e];exact List.mem_set (aB.1 h).1 _
 .rw[e];simp
theorem EG(z:aL)(s:Bs){k:Int}(aP:Int)(d:List Datum)(s' :Bs){k' :Int}(hk:k' ≠k):wfR (bL z s k aP d) s' k' =wfR z s' k' :=by
 have hx:isF s' k' (eN z s k aP d)=false:=by
  unfold isF eN;simp[Ne.symm hk]
 unfold wfR mn;rcases vl z s k aP d with ⟨i,y,h,ht,e⟩|⟨i,e⟩
 .rw[e,Fs hx h (by unfold isF;simp[ht,Ne.symm hk])]
 .rw[e,List.append_assoc,List.find?_append,List.find?_append,List.find?_singleton,hx];conv=>rhs;rw[<- List.take_append_drop i z.aj,List.find?_append]
  rfl
theorem Pn{z:aL}(s:Bs){k:Int}(aP:Int)(d:List Datum){x:Signed}(hx:x∈z.aj)(hk:x.set.type≠k):x∈(bL z s k aP d).aj:=by
 rcases vl z s k aP d with ⟨i,y,h,ht,e⟩|⟨i,e⟩
 .rw[e];obtain⟨j,hj⟩:=cN hx;refine aC (i:=j) ?_;rw[List.getElem?_set_ne,hj];rintro rfl;rw[h]at hj;cases hj;exact hk ht
 .rw[e];rw[<- List.take_append_drop i z.aj]at hx;rcases List.mem_append.1 hx with hx|hx <;> simp[hx]
theorem JW{z:aL}{s:Bs}{k:Int}{x:Signed}(h:z.aj.countP (isF s k)<=1)(hx:x∈z.aj)(hp:isF s k x=true):wfR z s k=(x.set,true):=by
 unfold wfR mn;rw[Fo h hx hp]
theorem Lg{z:aL}{ns:List Bs}{y:cG}(h:y∈ig z ns):y.type=8:=by
 unfold ig at h;obtain⟨i,_,rfl⟩:=List.mem_map.1 h;rfl
theorem qi{p:Signed->Bool}:∀(l:List Signed) (nx:List cG) (acc:List Signed),(∀y∈nx,p ⟨y,[]⟩=false)->(iB l nx acc).find? p=(acc++l).find? p
 |[],nx,acc,_=>by rw[Ds,List.append_nil]
 |s::t,nx,acc,h=>by
  rw[Bz];split
  .rw[qi t nx _ h,List.append_assoc];rfl
  .split
   .rw[qi t nx.tail _ λy hy=>h y (List.mem_of_mem_tail hy)];cases nx with
    |nil=>simp
    |cons y nx =>
     have:=h y (List.mem_cons_self ..);simp only[List.tail_cons,List.find?_append,List.append_assoc,List.find?_cons,List.find?_nil,this,List.cons_append,List.nil_append]
   .rw[qi t nx _ h,List.append_assoc];rfl
theorem CA{z:aL}(h:(eW z).2=0)(s:Bs){k:Int}(hk:k≠8):wfR (eW z).1 s k=wfR z s k:=by
 unfold eW at h ⊢;split at h
 .cases h
 rename_i g1;rw[if_neg g1];split at h
 .rename_i g2;exact absurd h (by simpa using g2)
 rename_i g2;rw[if_neg g2];split at h
 .cases h
 rename_i g3;rw[if_neg g3];dsimp only;unfold wfR mn;dsimp only;rw[qi _ _ _ λy hy=>by
  have:y.type=8:=Lg hy;unfold isF;simp[this,Ne.symm hk],List.nil_append]
 have:∀l:List Signed,(l.filter ll).find? (isF s k)=l.find? (isF s k):=λl=>by
  rw[List.find?_filter]
  congr 1
  funext x
  unfold ll isF;by_cases hx:x.set.type=k
  .rw[hx,show(k != 8)=true by simp[hk]];cases (x.set.name==s&&k==k) <;> rfl
  .simp[hx]
 unfold ff;rw[this]
theorem Dd(af:Bs)(K:List cR)(a b:Int)(s:Bs)(k:Int):∀(os:List Bool) (l:List Signed),os.length=l.length->((gE af K a b os l).find? (isF s k)).map (·.set)=(l.find? (isF s k)).map (·.set)
 |[],[],_=>rfl
 |o::os,x::t,h=>by
  have e:isF s k (xH af K a b o x)=isF s k x:=rfl;rw[gE,List.find?_cons,List.find?_cons,e];cases isF s k x with
  |true=>rfl
  |false=>exact Dd af K a b s k os t (by simpa using h)
theorem JV(z:aL)(s:Bs)(k:Int):wfR z s k=match (z.aj.find? (isF s k)).map (·.set)with|some x=>(x,true)|none=>(pq,false):=by
 unfold wfR mn;cases z.aj.find? (isF s k) <;> rfl
theorem Gx(z:aL)(K:List cR)(a b:Int)(s:Bs)(k:Int):wfR (jJ z K a b) s k=wfR z s k:=by
 rw[JV,JV];have:=Dd z.af K a b s k (lW z) z.aj (rS _ _ _);unfold jJ;dsimp only;rw[this]
theorem Bc(af:Bs)(K:List cR)(a b:Int):∀(os:List Bool) (l:List Signed),os.length=l.length->(gE af K a b os l).map (·.set)=l.map (·.set)
 |[],[],_=>rfl
 |o::os,x::t,h=>by
  rw[gE,List.map_cons,List.map_cons,Bc af K a b os t (by simpa using h)];rfl
theorem Gi(isC isC' :Bs->Bool)(hC:∀s,isC s=isC' s):∀(c:Bs) (l l' :List Signed),l.map (·.set)=l'.map (·.set)->lE isC c l=lE isC' c l'
 |_,[],[],_=>rfl
 |c,x::t,y::t',h=>by
  simp only[List.map_cons,List.cons.injEq]at h;have e:gy isC c x=gy isC' c y:=by unfold gy;rw[h.1,hC]
  have e2:∀cc,sD cc x=sD cc y:=λcc=>by unfold sD;rw[h.1]
  rw[lE,lE,e,e2,Gi isC isC' hC _ t t' h.2]
 |_,[],_::_,h=>by cases h
 |_,_::_,[],h=>by cases h
theorem PE(af:Bs):∀(l l' :List Signed),l.map (·.set)=l'.map (·.set)-> ∀s,gI af l s=gI af l' s:=by
 intro l l' h s;unfold gI;have:∀l:List Signed,l.any (λx=>pB af x&&(x.set.name==s))=(l.map (·.set)).any (λy=>pB af ⟨y,[]⟩&&(y.name==s)):=λl=>by rw[List.any_map];rfl
 first
  |rw[this,this,h]
  |(simp only[this,h])
theorem QS(z:aL)(K:List cR)(a b:Int):lW (jJ z K a b)=lW z:=by
 have h:(jJ z K a b).aj.map (·.set)=z.aj.map (·.set):=Bc _ _ _ _ _ _ (rS _ _ _);exact Gi _ _ (PE z.af _ _ h) _ _ _ h
theorem yw(af:Bs)(K:List cR)(a b:Int):∀(os:List Bool) (l:List Signed),gE af K a b os (gE af K a b os l)=gE af K a b os l
 |[],_=>by rw[gE.eq_def,gE.eq_def]
 |o::os,[]=>rfl
 |o::os,x::t=>by rw[gE,gE,yw af K a b os t];rfl
theorem LJ(z:aL)(K:List cR)(a b:Int):jJ (jJ z K a b) K a b=jJ z K a b:=by
 show(⟨z.af,gE z.af K a b (lW (jJ z K a b)) (gE z.af K a b (lW z) z.aj)⟩:aL)=_
 rw[QS,yw];rfl
structure zH(since aO:Int)(n:Int)(z:aL):Prop where
 valid:bf z=true
 next:(pJ n).2=0
 Vz:fP z=(pJ n).1
 has:(wfR z z.af 7).2=true
 keys:(dw (wfR z z.af 7).1).2=0
 again:iL z (dw (wfR z z.af 7).1).1 since aO=(z,0)
theorem wE{since aO:Int}{y z:aL}(h:de since aO y=some z):zH since aO (kq (wfR y y.af 4).1).n z:=by
 have ha:=eB h;obtain⟨h1,h2,h3,h4,h5,h6,h7,h8,e⟩:=oS h;have kn:(eT y).af=y.af:=rfl;have hJ:∀(c:aL) (K:List cR),(iL c K since aO).2=0->iL c K since aO=(jJ c (kH K) since aO,0)/\ ∀z,bf z=true->iL z K since aO=(jJ z (kH K) since aO,0):=λc K hk=>by
  have hA:∀z,bf z=true->oY c K since aO=true->oY z K since aO=true:=λz hz hc=>by
   unfold oY at hc ⊢;simp only[Bool.not_eq_true',Bool.or_eq_false_iff,Bool.not_eq_false']at hc ⊢;exact⟨hc.1,hz⟩
  unfold iL at hk ⊢;split at hk
  .cases hk
  rename_i g1;rw[if_neg g1];split at hk
  .cases hk
  rename_i g2;rw[if_neg g2];split at hk
  .cases hk
  rename_i g3;rw[if_neg g3];refine⟨rfl,λz hz=>?_⟩;rw[if_neg (by rw[hA z hz (by simpa using g1)];decide),if_neg g2,if_neg g3]
 obtain⟨g1,g2⟩:=hJ _ _ h7;rw[g1]at e;dsimp only at e;have hw:∀k:Int,k≠8->wfR z z.af k=wfR (eT y) (eT y).af k:=λk hk=>by
  rw[ha,kn];conv=>lhs;rw[e]
  rw[Gx,CA h6 _ hk]
 have kj:wfR (eT y) y.af 4=((eN y y.af 4 0 [⟨[],(pJ (kq (wfR y y.af 4).1).n).1,(kq (wfR y y.af 4).1).m⟩]).set,true) :=
  JW (yN (bO h5).rising.pw) (IX ..) (IW ..)
 refine⟨h8,h2,?_,?_,?_,?_⟩
 .rw[<- uJ h8];have h0:=hw 4 (by decide);rw[kn,kj]at h0;unfold cO;unfold wfR at h0;cases hf:mn z z.af 4 with
  |none=>rw[hf]at h0;exact absurd (congrArg Prod.snd h0) (by simp)
  |some x =>
   rw[hf]at h0;have h0:=congrArg Prod.fst h0;dsimp only at h0 ⊢;rw[h0];rfl
 .rw[hw 7 (by decide)];exact h3
 .rw[hw 7 (by decide)];exact h4
 .rw[hw 7 (by decide),g2 z h8];conv=>lhs;rw[e]
  conv=>rhs;rw[e]
  rw[LJ]
theorem MC{cx:Cx}{st st1:St}{X:St->Prop}(hw:aK cx st st1)(h:App X st1):∃st',aK cx st st' /\X st' :=⟨st1,hw,h⟩
def lvB(l:List ao)(i j:Nat):Bool:=match l[i]?, l[j]? with
 |some p,some q=> !((p.ah.af==q.ah.af)&& !decide (p.ah=q.ah))
 |_,_=>true
def lU(w:aZ):Bool:=(List.range w.ai.length).all λi=>(List.range i).all (lvB w.ai i)
theorem Qy{w:aZ}(h:lU w=true){p q:ao}(hp:p∈w.ai)(hq:q∈w.ai)(e:p.ah.af=q.ah.af):p.ah=q.ah:=by
 obtain⟨i,hi⟩:=cN hp;obtain⟨j,hj⟩:=cN hq;have key:∀(i j:Nat) (p q:ao),w.ai[i]? =some p->w.ai[j]? =some q->p.ah.af=q.ah.af->j<i->p.ah=q.ah:=λi j p q hi hj e hE=>by
  unfold lU at h;rw[aH]at h;have h1:=h i (List.mem_range.2 (aB.1 hi).1);rw[aH]at h1;have h2:=h1 j (List.mem_range.2 hE);unfold lvB at h2;rw[hi,hj]at h2;simpa [e] using h2
 rcases Nat.lt_trichotomy i j with hij|rfl|hij
 .exact(key j i q p hj hi e.symm hij).symm
 .rw[hi]at hj;cases hj;rfl
 .exact key i j p q hi hj e hij
theorem NJ(w:aZ)(hv:∀p∈w.ai,bf p.ah=true)(hn:w.ai.length<=100000):NQ.Fn cx 17 [.agg (bu w)] (.d (.bool (lU w))) []:=by
 refine eS (fun|7=>[66666]|_=>[]) bp mixed Tryz.func17 ?_;conv=>whnf
 refine⟨Nat,λi=>⟨[(1,.ptr 1 0),(3,.d (.int .i64 i))],[(1,.box ((bu w).map .d))]⟩,λi=>i<=w.ai.length/\(List.range i).all (λi=>(List.range i).all (lvB w.ai i))=true,λi=>w.ai.length-i,
  ⟨0,⟨Nat.zero_le _,rfl⟩,aK.keep⟩,?_⟩
 rintro i ⟨hi,hJ⟩;conv=>whnf
 refine ak (λh1=>?_) (λh1=>?_) <;> (rw[h1];conv=>whnf)
 .have hE:i<w.ai.length:=by simp at h1;omega
  obtain⟨p,hp⟩:∃p,w.ai[i]? =some p:=⟨_,au hE⟩
  have kx:=hv p (aC hp);refine⟨Nat,λj=>⟨[(1,.ptr 1 0),(3,.d (.int .i64 i)),(4,.d (.int .i64 j))],[(1,.box ((bu w).map .d))]⟩,λj=>j<=i/\(List.range j).all (lvB w.ai i)=true,λj=>i-j,
   ⟨0,⟨Nat.zero_le _,rfl⟩,aK.keep⟩,?_⟩
  rintro j ⟨hj,kp⟩;conv=>whnf
  refine ak (λh2=>?_) (λh2=>?_) <;> (rw[h2];conv=>whnf)
  .have hR:j<i:=by simp at h2;omega
   obtain⟨q,hq⟩:∃q,w.ai[j]? =some q:=⟨_,au (by omega)⟩
   have kr:lvB w.ai i j= !((p.ah.af==q.ah.af)&& !decide (p.ah=q.ah)):=by unfold lvB;rw[hp,hq]
   refine cu ?_;conv=>whnf
   refine⟨aD i,aR p,aN hp,?_⟩;conv=>whnf
   refine⟨aD j,aR q,aN hq,?_⟩;conv=>whnf
   (refine⟨_,_,Ir p.ah q.ah (by have:=(bO kx).few;omega) (dA kx).2,?_⟩;conv=>whnf)
   (refine bV ?_;conv=>whnf)
   repeat' (first
    |(refine⟨aD i,aR p,aN hp,?_⟩;conv=>whnf)
    |(refine⟨aD j,aR q,aN hq,?_⟩;conv=>whnf)
    |(refine ak (λh=>?_) (λh=>?_) <;> (rw[h];conv=>whnf))
    |fail)
   all_goals first
    |exact⟨j+1,⟨hR,by rw[List.range_succ,List.all_append,kp];simp[kr, *]⟩,by(show i-(j+1)<i-j;omega),aK.keep ⟨ae,ae,⟨ax (k:=j) (by omega),rfl⟩,trivial⟩⟩
    | (refine al rfl ?_
       have kE:lU w=false:=by
        unfold lU;rw[List.all_eq_false];refine⟨i,List.mem_range.2 hE,?_⟩;rw[aH];intro hh;have:=hh j (List.mem_range.2 hR);rw[kr]at this
        simp_all
       rw[kE];rfl)
  .obtain rfl:j=i:=by simp at h2;omega
   exact⟨j+1,⟨hE,by rw[List.range_succ,List.all_append,hJ];simp[kp]⟩,by(show w.ai.length-(j+1)<w.ai.length-j;omega),aK.keep ⟨ae,⟨ax (k:=j) (by omega),rfl⟩,trivial⟩⟩
 .obtain rfl:i=w.ai.length:=by simp at h1;omega
  refine al rfl ?_;unfold lU;rw[hJ];rfl
end Go.Proofs.YtodofogcincleaaGreatDoor
