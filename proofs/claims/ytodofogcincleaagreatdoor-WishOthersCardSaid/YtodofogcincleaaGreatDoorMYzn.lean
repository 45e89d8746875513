/-
  Merged texts.
-/
import Derived.Test.YtodofogcincleaaGreatDoorYzmM
import Derived.Test.YtodofogcincleaaGreatDoorMYzd
set_option linter.all false
set_option maxRecDepth 100000
namespace Go.Proofs.YtodofogcincleaaGreatDoor
open NQ Go NP Go.RowKit
def Gz(w:aL)(x:bc)(since till:Int):aY:=⟨w,since,till,(bS w.zones x.zone).1,(wfR (bS w.zones x.zone).1 x.zone 2).1.life,[],[],[]⟩
def yd(x:bc):Int:=match x.hosts with|n::_=>n|[]=>0
def vj(o:aY)(x:bc):Option aY:=if x.kind=1 then qi o x else if x.kind=2 then qg o x else if x.kind=3 then rS o x (yd x)else if x.kind=4 then pK o x else some o
def nc(w:aL)(x:bc)(since till:Int):Option aY:=if (wfR (bS w.zones x.zone).1 x.zone 2).2=true then vj (Gz w x since till) x else none
noncomputable def fV:Cx:={cx with chg:=fG [(62,10),(63,11),(64,9),(65,9),(66,9),(67,9)]}
theorem Jn:aZ fV:=aV
theorem zX:fV.P.follows .mixedOrders=true:=mixed
def Nf:Nat->List Nat:=fun|5=>[33333,55555]|6=>[33333,55555]|7=>[55555]|9=>[33333]|11=>[33333]|13=>[33333]|15=>[33333]|16=>[90041]|_=>[]
noncomputable abbrev nL:Code:=(Tryz.f29).body.getD .skip
def wL(a b:AV):List (Nat×Blk):=[(100008,.box [a]),(100009,.box [b])]
def QpS(r:Option aY):St->Prop:=λst=>r=none/\st.get 8= .ptr 100008 0/\st.get 9= .ptr 100009 0/\(∃c,find st.heap 100008=some (.box [c]))/\ ∃c,find st.heap 100009=some (.box [c])
def QrS(r:Option aY):Ex->St->Prop:=λe st=>match e with
 | .ret=> ∃o,r=some o/\ah fV [100034] st ⟨[(8,.ptr 100008 0),(9,.ptr 100009 0)],wL (.d (.slice 1 (o.stages.map cg))) (.d (.int .i64 0))⟩
 |_=>False
def stS(w:aL)(x:bc)(since till:Int):St:=⟨[(2,.d (.int .i64 since)),(3,.d (.int .i64 till)),(4,.ptr 4 0),(5,.ptr 5 0),(8,.ptr 100008 0),(9,.ptr 100009 0)],(4,.box ((bt w).map .d))::(5,.box ((aT x).map .d))::wL (.nil 1) (.d (.int .i64 0))⟩
theorem vY{w:aL}:∀(l:List Int) {seen:List Bs},kq w seen l=true-> ∀n∈l,bn w n=true
 |[],_,_,n,hn=>by cases hn
 |m::t,seen,h,n,hn=>by
  unfold kq at h;simp only[aF]at h;rcases List.mem_cons.1 hn with rfl|hn
  . exact h.1.1
  . exact vY t h.2 n hn
theorem mv{w:aL}{l:List Int}(h:fw w l=true):l.length<=8/\l≠[]/\ ∀n∈l,bn w n=true:=by
 unfold fw at h;simp only[aF,Bool.not_eq_true',Bool.or_eq_false_iff,decide_eq_false_iff_not]at h;refine⟨by omega,λe=>?_,vY l h.2⟩;subst e;simp at h
attribute [local irreducible] NQ.FnP
set_option maxHeartbeats 8000000 in
theorem FE(w:aL)(x:bc)(since till:Int)(hv:∀p∈w.zones,aR p.zone=true)(hn:w.zones.length<=20)(hnh:w.hosts.length<=1000)(hc:(bS w.zones x.zone).2=true)(hk:jh w x=true) :
 vcp fV [100034] pvW (Tryz.f29).ntmps Nf (QpS (nc w x since till)) ((fo 4 nL).getD .skip) (QrS (nc w x since till)) (stS w x since till):=by
 conv=>whnf
 have hC:=lift (cx' :=fV) (gZ w x.zone hv (by omega)) rfl rfl;have hrr:∃r,r=nc w x since till:=⟨_,rfl⟩
 obtain⟨r,hr⟩:=hrr;rw[<- hr];unfold nc Gz at hr;have hz0:(bS w.zones x.zone).2=true->aR (bS w.zones x.zone).1=true:=λh=>by
  rcases gj w.zones x.zone with ⟨p,hp,e,_⟩|⟨e,_⟩
  . rw[e];exact hv p hp
  . rw[e]at h;cases h
 have hz:=hz0 hc;generalize bS w.zones x.zone=c at hC hr hz hc;obtain⟨c,c2⟩:=c;dsimp only at hC hr hz hc;subst hc;refine⟨_,ah.trans (ah.keep (sl:=[(4,.ptr 4 0),(5,.ptr 5 0),(8,.ptr 100008 0),(9,.ptr 100009 0),(10,.ptr 34 0)]) (h:=(34,.box ((bt w).map .d++[.d (.int .i64 since),.d (.int .i64 till),.d (.str []),.nil 5,.d (.int .i64 0),.omap 32,.nil 3,.nil 1]))::(32,.smap [])::(4,.box ((bt w).map .d))::(5,.box ((aT x).map .d))::wL (.nil 1) (.d (.int .i64 0))))
  (ah.trans (ah.name 34 100034 rfl rfl) (ah.trans (ah.name 32 90032 rfl rfl) (ah.trans (ah.il 100034 13 90040 3 _ 45 3 rfl rfl rfl (by decide)) (ah.trans (ah.il 100034 14 90041 1 _ 40 1 rfl rfl rfl (by decide))
  (ah.keep (sl:=[(5,.ptr 5 0),(8,.ptr 100008 0),(9,.ptr 100009 0),(10,.ptr 100034 0)]) (h:=(5,.box ((aT x).map .d))::(100008,.box [.nil 1])::(100009,.box [.d (.int .i64 0)])::(100034,.box ((bt w).map .d++[.d (.int .i64 since),.d (.int .i64 till),.d (.str []),.nil 5,.d (.int .i64 0),.omap 90032,.own 90040,.own 90041]))::(90032,.smap [])::(90040,.row 45 3 [])::(90041,.row 40 1 [])::[])))))),?_⟩
 conv=>whnf
 (refine⟨(by kernel_rfl:bA _=true),?_⟩;conv=>whnf)
 have hC:=bx (pv' :=pvW) hC;refine⟨[5,100008,100009,100034,90032,90040,90041],_,hC,⟨rfl,rfl,rfl⟩,?_⟩
 conv=>whnf
 refine az ?_
 conv=>whnf
 repeat (refine And.intro (by kernel_rfl:NQ.viewAt _ _ _ _=NQ.viewAt _ _ _ _) ?_;conv=>whnf)
 refine⟨_,ah.keep (sl:=[(5,.ptr 5 0),(8,.ptr 100008 0),(9,.ptr 100009 0),(10,.ptr 100034 0)]) (h:=(5,.box ((aT x).map .d))::(100008,.box [.nil 1])::(100009,.box [.d (.int .i64 0)])::(100034,.box ((bt w).map .d++[.d (.int .i64 since),.d (.int .i64 till),.d (.str c.apex),.d (.slice 5 (c.sets.map ak)),.d (.int .i64 0),.omap 90032,.own 90040,.own 90041]))::(90032,.smap [])::(90040,.row 45 3 [])::(90041,.row 40 1 [])::[]),?_⟩
 conv=>whnf
 have hN:=sA c x.zone 2 (by have:=(cO hz).1;omega);generalize wfR c x.zone 2=s2 at hN hr;obtain⟨s2,b2⟩:=s2;dsimp only at hN hr;cases b2 with
 |false =>
  rw[if_neg (by decide)]at hN hr;have hN:=lift (cx' :=fV) hN rfl rfl
  (refine⟨(by kernel_rfl:bA _=true),?_⟩;conv=>whnf)
  refine⟨[5,100008,100009,100034,90032,90040,90041],_,hN,⟨rfl,rfl,rfl⟩,?_⟩;exact⟨hr,rfl,rfl,⟨_,rfl⟩,⟨_,rfl⟩⟩
 |true =>
 rw[if_pos rfl]at hN hr;have hN:=lift (cx' :=fV) hN rfl rfl
 (refine⟨(by kernel_rfl:bA _=true),?_⟩;conv=>whnf)
 refine⟨[5,100008,100009,100034,90032,90040,90041],_,hN,⟨rfl,rfl,rfl⟩,?_⟩
 conv=>whnf
 refine az ?_
 conv=>whnf
 repeat (refine And.intro (by kernel_rfl:NQ.viewAt _ _ _ _=NQ.viewAt _ _ _ _) ?_;conv=>whnf)
 generalize ho:aY.mk w since till c s2.life [] [] []=o at hr
 refine⟨_,ah.keep (sl:=[(5,.ptr 5 0),(8,.ptr 100008 0),(9,.ptr 100009 0),(10,.ptr 100034 0)]) (h:=(5,.box ((aT x).map .d))::(100008,.box [.nil 1])::(100009,.box [.d (.int .i64 0)])::bj o) (by repeat' (first|exact trivial|refine⟨⟨rfl,rfl⟩,?_⟩)) (by subst ho;exact(by repeat' (first|exact trivial|refine⟨⟨rfl,rfl⟩,?_⟩))),?_⟩
 conv=>whnf
 have ow:o.w=w:=by rw[<- ho]
 have oz:o.zone=c:=by rw[<- ho]
 have op:o.puts=[]:=by rw[<- ho]
 have os:o.stages=[]:=by rw[<- ho]
 have og:o.got=[]:=by rw[<- ho]
 clear ho;rw[<- ow]at hv hn hnh hk;rw[<- oz]at hz;clear hC hN;unfold jh at hk;by_cases k1:x.kind=1
 . rw[show(x.kind==1)=true by simp[k1]];rw[if_pos k1,aF]at hk;obtain⟨hl,hl0,hh⟩:=mv hk.2;have hr1:r=qi o x:=by rw[hr];unfold vj;rw[if_pos k1]
   have hM:=lift (cx' :=fV) (NB o x hv (by omega) hz op (by rw[os];simp) og (by omega) hl0 hh) rfl rfl;rw[<- hr1]at hM
   conv=>whnf
   cases r with
   |none =>
    refine⟨[5,100008,100009],_,hM,⟨rfl,rfl,rfl⟩,?_⟩;exact⟨rfl,rfl,rfl,⟨_,rfl⟩,⟨_,rfl⟩⟩
   |some o2 =>
    refine⟨[5,100008,100009],_,hM,⟨rfl,rfl,rfl⟩,?_⟩
    conv=>whnf
    refine az ?_
    conv=>whnf
    exact⟨o2,rfl,ah.keep⟩
 rw[show(x.kind==1)=false by simp[k1]];rw[if_neg k1]at hk
 conv=>whnf
 by_cases k2:x.kind=2
 . rw[show(x.kind==2)=true by simp[k2]];have hr1:r=qg o x:=by rw[hr];unfold vj;rw[if_neg k1,if_pos k2]
   have hM:=lift (cx' :=fV) (Nt o x hv (by omega) hz op (by rw[os];simp) og) rfl rfl;rw[<- hr1]at hM
   conv=>whnf
   cases r with
   |none =>
    refine⟨[5,100008,100009],_,hM,⟨rfl,rfl,rfl⟩,?_⟩;exact⟨rfl,rfl,rfl,⟨_,rfl⟩,⟨_,rfl⟩⟩
   |some o2 =>
    refine⟨[5,100008,100009],_,hM,⟨rfl,rfl,rfl⟩,?_⟩
    conv=>whnf
    refine az ?_
    conv=>whnf
    exact⟨o2,rfl,ah.keep⟩
 rw[show(x.kind==2)=false by simp[k2]];rw[if_neg k2]at hk
 conv=>whnf
 by_cases k3:x.kind=3
 . rw[show(x.kind==3)=true by simp[k3]];rw[if_pos k3,aF]at hk;obtain⟨host,hho,hhw⟩:∃host,x.hosts=[host]/\bn o.w host=true:=by
    have h1:=hk.2;unfold px at h1;split at h1
    . rename_i n e;exact⟨n,e,h1⟩
    . cases h1
   have hr1:r=rS o x host:=by rw[hr];unfold vj;rw[if_neg k1,if_neg k2,if_pos k3];unfold yd;rw[hho]
   have hM:=lift (cx' :=fV) (Mi o x host hho hhw hv hn hnh op (by rw[os];simp) og hz) rfl rfl;rw[<- hr1]at hM
   conv=>whnf
   cases r with
   |none =>
    refine⟨[5,100008,100009],_,hM,⟨rfl,rfl,rfl⟩,?_⟩;exact⟨rfl,rfl,rfl,⟨_,rfl⟩,⟨_,rfl⟩⟩
   |some o2 =>
    refine⟨[5,100008,100009],_,hM,⟨rfl,rfl,rfl⟩,?_⟩
    conv=>whnf
    refine az ?_
    conv=>whnf
    exact⟨o2,rfl,ah.keep⟩
 rw[show(x.kind==3)=false by simp[k3]];rw[if_neg k3]at hk
 conv=>whnf
 by_cases k4:x.kind=4
 . rw[show(x.kind==4)=true by simp[k4]];rw[if_pos k4,aF,aF]at hk;obtain⟨hl,hl0,hh⟩:=mv hk.1.2;have hr1:r=pK o x:=by rw[hr];unfold vj;rw[if_neg k1,if_neg k2,if_neg k3,if_pos k4]
   have hM:=lift (cx' :=fV) (Ly o x (by omega) (by omega) hl0 hh op (by rw[os];simp) og hz) rfl rfl;rw[<- hr1]at hM
   conv=>whnf
   cases r with
   |none =>
    refine⟨[5,100008,100009],_,hM,⟨rfl,rfl,rfl⟩,?_⟩;exact⟨rfl,rfl,rfl,⟨_,rfl⟩,⟨_,rfl⟩⟩
   |some o2 =>
    refine⟨[5,100008,100009],_,hM,⟨rfl,rfl,rfl⟩,?_⟩
    conv=>whnf
    refine az ?_
    conv=>whnf
    exact⟨o2,rfl,ah.keep⟩
 rw[if_neg k4]at hk;cases hk
end Go.Proofs.YtodofogcincleaaGreatDoor
namespace NP
open NQ Go
theorem Da(z:aD)(s:Bs)(k:Int):sm z s k=match z.sets.findIdx? (is ⟨s,k⟩)with|some i=>z.sets[i]? |none=>none:=by
 unfold sm;rw[<- kn];rfl
def gX(l:List al)(p:al):List al:=(l.filter λq=>(q.host != p.host)||(q.zone.apex != p.zone.apex))++(if p.zone.sets=[]then[]else[p])
def kf(w:aL)(s:List al):aL:=⟨w.hosts,s.foldl gX w.zones,w.anchor,w.hints⟩
theorem GZ(l:List al)(p:al):(gX l p).length<=l.length+1:=by
 unfold gX;rw[List.length_append];have:=List.length_filter_le (λq:al=>(q.host != p.host)||(q.zone.apex != p.zone.apex)) l;split <;> simp <;> omega
theorem tk:∀(s:List al) (l:List al),(s.foldl gX l).length<=l.length+s.length
 |[],l=>by simp
 |p::t,l=>by
  have h1:=tk t (gX l p);have h2:=GZ l p;simp only[List.foldl_cons,List.length_cons];omega
def mL(zs:List al)(apex:Bs):Nat->Bs->Int
 |0,_=> -1
 |f+1,s=>if s=[46]then -1 else match kI zs (cF s)with
  |none=>mL zs apex f (cF s)
  |some (k,p)=>if (wfR p.zone apex 2).2=true then(k:Int)else -1
def nz(zs:List al)(apex:Bs):Int:=if aQ apex=true then mL zs apex ((bU apex).length+1) apex else -1
end NP
namespace Go.Proofs.YtodofogcincleaaGreatDoor
open NQ Go NP Go.RowKit
theorem MT(z:aD)(s:Bs)(k:Int)(hn:z.sets.length<=100000):NQ.Fn cx 13 [.agg (aH z),.str s,.int .i64 k] (.tuple [.agg ((bN (wfR z s k).1).map .d),.d (.bool (wfR z s k).2)]) []:=by
 refine aK aV mixed Tryz.func13 (by kernel_rfl) rfl (ag rfl) ?_;conv=>whnf
 have fA:=ON z ⟨s,k⟩ hn;unfold atI at fA;have hw:wfR z s k=match z.sets.findIdx? (is ⟨s,k⟩)with|some i=>(match z.sets[i]? with|some x=>(x.set,true)|none=>(pO,false))|none=>(pO,false):=by
  unfold wfR;rw[Da];cases z.sets.findIdx? (is ⟨s,k⟩) <;> rfl
 rw[hw];cases hi:z.sets.findIdx? (is ⟨s,k⟩)with
 |none =>
  rw[hi]at fA
  (refine⟨_,_,fA,?_⟩;conv=>whnf)
  exact aj rfl rfl
 |some i =>
  rw[hi]at fA;obtain⟨hlt,_,_⟩:=List.findIdx?_eq_some_iff_getElem.1 hi
  (refine⟨_,_,fA,?_⟩;conv=>whnf)
  rw[show decide ((i:Int)<0)=false by simp]
  conv=>whnf
  refine⟨aw i,ak z.sets[i],aB (ai hlt),?_⟩
  conv=>whnf
  refine aj rfl ?_;dsimp only;rw[ai hlt];rfl
set_option maxHeartbeats 2000000 in
theorem JK(w:aL)(s:List al)(hn:w.zones.length+s.length<=100000):NQ.Fn cx 34 [.agg (bt w),.agg (cg s)] (.agg ((bt (kf w s)).map .d)) []:=by
 refine eO (fun|13=>[57]|_=>[]) aV mixed Tryz.func34 (by kernel_rfl) rfl (ag rfl) ?_
 conv=>whnf
 refine⟨Nat×aL,λq=>⟨[(2,.ptr 2 0),(3,.ptr 3 0),(4,.ptr 4 0),(5,.d (.int .i64 q.1))],[(2,.box ((bt q.2).map .d)),(3,.box [.d (.slice 3 (s.map aA))]),(4,.box [.nil 3,.nil 3,.d (.str []),.d (.int .i64 0),.d (.int .i64 0),.nil 3,.nil 1])]⟩,λq=>q.1<=s.length/\q.2=kf w (s.take q.1),λq=>s.length-q.1,
  ⟨(0,w),⟨Nat.zero_le _,rfl⟩,aC.keep⟩,?_⟩
 rintro⟨k,wk⟩ ⟨hk,hwk⟩;dsimp only at hk hwk;have hz:wk.zones.length<=w.zones.length+k:=by
  have:=tk (s.take k) w.zones;rw[List.length_take]at this;rw[hwk];show((s.take k).foldl gX w.zones).length<=_
  omega
 conv=>whnf
 refine af (λh1=>?_) (λh1=>?_) <;> (rw[h1];conv=>whnf)
 . have hlt:k<s.length:=by simp at h1;omega
   obtain⟨p,hp⟩:∃p,s[k]? =some p:=⟨_,ai hlt⟩
   refine⟨aw k,aA p,aB hp,?_⟩
   conv=>whnf
   refine⟨Nat,λj=>⟨[(2,.ptr 2 0),(3,.ptr 3 0),(4,.ptr 4 0),(5,.d (.int .i64 k)),(6,.ptr 6 0),(7,.own 57),(8,.d (.int .i64 j))],[(57,.row 45 3 (((wk.zones.take j).filter λq=>(q.host != p.host)||(q.zone.apex != p.zone.apex)).map aA)),(2,.box ((bt wk).map .d)),(3,.box [.d (.slice 3 (s.map aA))]),(4,.box [.nil 3,.nil 3,.d (.str []),.d (.int .i64 0),.d (.int .i64 0),.nil 3,.nil 1]),(6,.box ((aA p).map .d))]⟩,λj=>j<=wk.zones.length,λj=>wk.zones.length-j,
    ⟨0,Nat.zero_le _,(aC.jN 7 57 3 45 3 rfl rfl (by decide)).trans (aC.keep)⟩,?_⟩
   intro j hj
   conv=>whnf
   refine af (λh2=>?_) (λh2=>?_) <;> (rw[h2];conv=>whnf)
   . have hjl:j<wk.zones.length:=by simp at h2;omega
     obtain⟨q,hq⟩:∃q,wk.zones[j]? =some q:=⟨_,ai hjl⟩
     have hfl:=List.length_filter_le (λq:al=>(q.host != p.host)||(q.zone.apex != p.zone.apex)) (wk.zones.take j);rw[List.length_take]at hfl;have hnext:(wk.zones.take (j+1)).filter (λq=>(q.host != p.host)||(q.zone.apex != p.zone.apex))=(wk.zones.take j).filter (λq=>(q.host != p.host)||(q.zone.apex != p.zone.apex))++if ((q.host != p.host)||(q.zone.apex != p.zone.apex))=true then[q]else[]:=by
      rw[bK hq,List.filter_append,List.filter_cons,List.filter_nil]
     (refine⟨(by kernel_rfl:bE _ _=true),?_⟩;conv=>whnf)
     refine⟨aw j,aA q,aB hq,?_⟩
     conv=>whnf
     repeat' (first
      |(refine⟨aw j,aA q,aB hq,?_⟩;conv=>whnf)
      |(refine af (λh=>?_) (λh=>?_) <;> (rw[h];conv=>whnf))|fail)
     iterate 2
      . have hc:((q.host != p.host)||(q.zone.apex != p.zone.apex))=true:=by simp_all
        rw[if_pos hc]at hnext;have hrows:((wk.zones.take (j+1)).filter (λq=>(q.host != p.host)||(q.zone.apex != p.zone.apex))).map aA=((wk.zones.take j).filter (λq=>(q.host != p.host)||(q.zone.apex != p.zone.apex))).map aA++[aA q]:=by rw[hnext,List.map_append];rfl
        refine⟨by simp;omega,by simp;omega,?_⟩
        conv=>whnf
        refine⟨j+1,hjl,by(show wk.zones.length-(j+1)<wk.zones.length-j;omega),aC.keep ⟨ae,ae,ae,ae,ae,ae,⟨ao (k:=j) (by omega),rfl⟩,trivial⟩ ⟨⟨by rw[hrows];rfl,rfl⟩,(by repeat' (first|exact trivial|refine⟨ae,?_⟩))⟩⟩
     . have hc:¬((q.host != p.host)||(q.zone.apex != p.zone.apex))=true:=by simp_all
       rw[if_neg hc,List.append_nil]at hnext;refine⟨j+1,hjl,by(show wk.zones.length-(j+1)<wk.zones.length-j;omega),aC.keep ⟨ae,ae,ae,ae,ae,ae,⟨ao (k:=j) (by omega),rfl⟩,trivial⟩ ⟨⟨by rw[hnext];rfl,rfl⟩,(by repeat' (first|exact trivial|refine⟨ae,?_⟩))⟩⟩
   . obtain rfl:j=wk.zones.length:=by simp at h2;omega
     have hfl:=List.length_filter_le (λq:al=>(q.host != p.host)||(q.zone.apex != p.zone.apex)) wk.zones;have hstep:kf w (s.take (k+1))=⟨wk.hosts,gX wk.zones p,wk.anchor,wk.hints⟩:=by
      rw[hwk];unfold kf;rw[bK hp,List.foldl_append];rfl
     refine af (λh3=>?_) (λh3=>?_) <;> (rw[h3];conv=>whnf)
     . have hne:p.zone.sets≠[]:=by intro e;simp[e]at h3
       have hP:(gX wk.zones p).map aA=((wk.zones.take wk.zones.length).filter (λq=>(q.host != p.host)||(q.zone.apex != p.zone.apex))).map aA++[aA p]:=by
        rw[List.take_length];unfold gX;rw[if_neg hne,List.map_append];rfl
       refine⟨by simp;omega,by simp;omega,?_⟩
       conv=>whnf
       refine⟨(k+1,_),⟨hlt,hstep.symm⟩,by(show s.length-(k+1)<s.length-k;omega),aC.keep ⟨ae,ae,ae,⟨ao (k:=k) (by omega),rfl⟩,trivial⟩ ⟨⟨?_,rfl⟩,(by repeat' (first|exact trivial|refine⟨ae,?_⟩))⟩⟩;show _=some (Blk.box [.d (.slice 3 (wk.hosts.map eh)),.d (.slice 3 ((gX wk.zones p).map aA)),.d (.str wk.anchor.name),.d (.int .i64 wk.anchor.type),.d (.int .i64 wk.anchor.life),.d (.slice 3 (wk.anchor.data.map aG)),.d (.slice 1 (wk.hints.map jf))])
       rw[hP];rfl
     . have hne:p.zone.sets=[]:=by
        cases e:p.zone.sets with
        |nil=>rfl
        |cons a t=>rw[e]at h3;simp at h3
       have hP:(gX wk.zones p).map aA=((wk.zones.take wk.zones.length).filter (λq=>(q.host != p.host)||(q.zone.apex != p.zone.apex))).map aA:=by
        rw[List.take_length];unfold gX;rw[if_pos hne,List.append_nil]
       refine⟨(k+1,_),⟨hlt,hstep.symm⟩,by(show s.length-(k+1)<s.length-k;omega),aC.keep ⟨ae,ae,ae,⟨ao (k:=k) (by omega),rfl⟩,trivial⟩ ⟨⟨?_,rfl⟩,(by repeat' (first|exact trivial|refine⟨ae,?_⟩))⟩⟩;show _=some (Blk.box [.d (.slice 3 (wk.hosts.map eh)),.d (.slice 3 ((gX wk.zones p).map aA)),.d (.str wk.anchor.name),.d (.int .i64 wk.anchor.type),.d (.int .i64 wk.anchor.life),.d (.slice 3 (wk.anchor.data.map aG)),.d (.slice 1 (wk.hints.map jf))])
       rw[hP];rfl
 . obtain rfl:k=s.length:=by simp at h1;omega
   rw[List.take_length]at hwk;subst hwk;exact aj rfl rfl
theorem JE(w:aL)(a:Bs)(hv:∀p∈w.zones,aR p.zone=true)(hn:w.zones.length<=100000):NQ.Fn cx 16 [.agg (bt w),.str a] (.d (.int .i64 (nz w.zones a))) []:=by
 refine aK aV mixed Tryz.func16 (by kernel_rfl) rfl (ag rfl) ?_;conv=>whnf
 (refine⟨_,_,JC a,?_⟩;conv=>whnf)
 refine af (λh1=>?_) (λh1=>?_) <;> (rw[h1];conv=>whnf)
 . have hv:aQ a=false:=by simpa using h1
   refine aj rfl ?_;unfold nz;rw[if_neg (by rw[hv];decide)];rfl
 have hva:aQ a=true:=by simpa using h1
 have hgo0:mL w.zones a ((bU a).length+1) a=nz w.zones a:=by unfold nz;rw[if_pos hva]
 refine⟨Bs,λm=>⟨[(1,.d (.str a)),(2,.ptr 2 0),(6,.d (.str m))],[(2,.box ((bt w).map .d))]⟩,λm=>aQ m=true/\mL w.zones a ((bU m).length+1) m=nz w.zones a,λm=>(bU m).length,
  ⟨a,⟨hva,hgo0⟩,aC.keep⟩,λm ⟨hm,hgo⟩=>?_⟩
 conv=>whnf
 rw[mL]at hgo;refine af (λh2=>?_) (λh2=>?_) <;> (rw[h2];conv=>whnf)
 . have hne:m≠[46]:=by intro e;simp[e]at h2
   rw[if_neg hne]at hgo;have hl8:=PT hm;have hlen:1<=(bU m).length:=by
    cases hl:bU m with
    |nil =>
     have:=nq m;rw[hl]at this;exact absurd this.symm hne
    |cons a t=>simp
   (refine⟨_,_,Md m (by have:=dZ hm;omega),?_⟩;conv=>whnf)
   refine⟨by decide,by(show(1:Int)<=((bU m).map NP.ba).length;rw[an];omega),by(show(((bU m).map NP.ba).length:Int)<=((bU m).map NP.ba).length;omega),?_⟩
   conv=>whnf
   have e:(((bU m).map NP.ba).drop (1:Int).toNat).take ((((bU m).map NP.ba).length:Int).toNat-(1:Int).toNat)=((bU m).tail).map NP.ba:=by
    rw[List.take_of_length_le (by simp),List.map_tail, <- List.drop_one];rfl
   rw[e]
   (refine⟨_,_,Pp (bU m).tail (by simp;omega) (λx hx=>by have:=Ld hm x (List.mem_of_mem_tail hx);omega),?_⟩;conv=>whnf)
   have hpv:=pA hm;have hpl:(bU (cF m)).length+1=(bU m).length:=by rw[qP hm,List.length_tail];omega
   have fC:=MF w.zones (cF m) hv hn;have hok:=CJ w.zones (cF m);rw[<- hpl]at hgo;cases hc:kI w.zones (cF m)with
   |none =>
    rw[hc]at fC hgo
    (refine⟨_,_,fC,?_⟩;conv=>whnf)
    exact⟨cF m,⟨hpv,hgo⟩,by(show(bU (cF m)).length<(bU m).length;omega),aC.keep⟩
   |some x =>
    obtain⟨k,p⟩:=x;rw[hc]at fC hgo;have hkp:=hok _ hc;dsimp only at hkp hgo
    (refine⟨_,_,fC,?_⟩;conv=>whnf)
    rw[show decide (NX (some (k,p))<0)=false by(show decide ((k:Int)<0)=false);simp]
    conv=>whnf
    refine⟨aw k,aA p,aB hkp,?_⟩
    conv=>whnf
    (refine⟨_,_,MT p.zone a 2 (by have:=(cO (hv p (au hkp))).1;omega),?_⟩;conv=>whnf)
    refine af (λh3=>?_) (λh3=>?_) <;> (rw[h3];conv=>whnf)
    . rw[if_pos h3]at hgo;refine aj rfl ?_;rw[<- hgo];rfl
    . rw[if_neg (by rw[h3];decide)]at hgo;refine aj rfl ?_;rw[<- hgo];rfl
 . have hne:m=[46]:=by simpa using h2
   rw[if_pos hne]at hgo;refine aj rfl ?_;rw[<- hgo];rfl
theorem nB(z:aD)(s:Bs)(k l:Int)(d:List Datum):(bz z s k l d).apex=z.apex:=rfl
theorem Fx{since till:Int}{y z:aD}(h:cJ since till y=some z):(wfR y y.apex 4).2=true/\(sR (nR (wfR y y.apex 4).1).n).2=0/\(wfR (fy y) (fy y).apex 7).2=true/\(db (wfR (fy y) (fy y).apex 7).1).2=0/\aR (fy y)=true/\(fk (fy y)).2=0 /\
 (kT (fk (fy y)).1 (db (wfR (fy y) (fy y).apex 7).1).1 since till).2=0/\aR z=true/\z=(kT (fk (fy y)).1 (db (wfR (fy y) (fy y).apex 7).1).1 since till).1:=by
 unfold cJ at h;split at h
 case isFalse=>cases h
 rename_i h1;split at h
 . cases h
 rename_i h2;unfold kz at h;split at h
 case isFalse=>cases h
 rename_i h3;split at h
 . cases h
 rename_i h4;split at h
 . cases h
 rename_i h5;split at h
 . cases h
 rename_i h6;cases h;simp only[Bool.or_eq_true,bne_iff_ne,ne_eq,Bool.not_eq_true',not_or,Decidable.not_not,Bool.not_eq_false]at h2 h4 h5 h6;exact⟨h1,h2,h3,h4.1,h4.2,h5,h6.1,h6.2,rfl⟩
theorem jo{since till:Int}{y z:aD}(h:cJ since till y=some z):z.apex=y.apex:=by
 obtain⟨_,_,_,_,h5,h6,h7,_,rfl⟩:=Fx h;have hc:(fk (fy y)).1.apex=y.apex:=by
  unfold fk at h6 ⊢;split at h6
  . cases h6
  . rename_i g1;rw[if_neg g1];split at h6
    . rename_i g2;exact absurd h6 (by simpa using g2)
    . rename_i g2;rw[if_neg g2];split at h6
      . cases h6
      . rename_i g3;rw[if_neg g3];rfl
 unfold kT at h7 ⊢;split at h7
 . cases h7
 . rename_i g1;rw[if_neg g1];split at h7
   . cases h7
   . rename_i g2;rw[if_neg g2];split at h7
     . cases h7
     . rename_i g3;rw[if_neg g3];exact hc
structure eW(P:al->Prop)(n:Nat)(o:aY):Prop where
 num:o.stages.length<=n
 st:∀s∈o.stages,s≠[]/\s.length<=2000/\ ∀p∈s,P p
theorem eW.fin{P:al->Prop}{n:Nat}{o:aY}(h:eW P n o)(hl:o.puts.length<=2000)(hp:∀p∈o.puts,P p){o' :aY}(e:o'.stages=o.stages++(if o.puts=[]then[]else[o.puts])):eW P (n+1) o' :=by
 refine⟨?_,λs hs=>?_⟩
 . rw[e,List.length_append];have:=h.num;split <;> simp <;> omega
 . rw[e]at hs;rcases List.mem_append.1 hs with hs|hs
   . exact h.st s hs
   . split at hs
     . cases hs
     . rename_i hne;rw[List.mem_singleton.1 hs];exact⟨hne,hl,hp⟩
theorem eW.more{P:al->Prop}{n m:Nat}{o:aY}(h:eW P n o)(hnm:n<=m):eW P m o:=⟨Nat.le_trans h.num hnm,h.st⟩
theorem eW.mono{P Q:al->Prop}{n:Nat}{o:aY}(h:eW P n o)(hq:∀p,P p->Q p):eW Q n o:=⟨h.num,λs hs=>⟨(h.st s hs).1,(h.st s hs).2.1,λp hp=>hq p ((h.st s hs).2.2 p hp)⟩⟩
def jW(w:aL)(m:Nat)(g:List (Bs×List Int)):Prop:= ∀a,(bH g a).length<=m/\ ∀n∈bH g a,bn w n=true
theorem Gk(a b:Bs)(l:List Int):∀g:List (Bs×List Int),bH (bT b l g) a=if a=b then l else bH g a
 |[]=>by
  unfold bH bT bg;by_cases h:a=b
  . rw[if_pos h,if_pos h];rfl
  . rw[if_neg h,if_neg h];rfl
 |(k,v)::t=>by
  have ih:=Gk a b l t;unfold bT;by_cases hb:b=k
  . subst hb;rw[if_pos rfl];unfold bH bg;by_cases h:a=b
    . rw[if_pos h,if_pos h];rfl
    . rw[if_neg h,if_neg h,if_neg h]
  . rw[if_neg hb];unfold bH at ih ⊢;unfold bg;by_cases h:a=k
    . subst h;rw[if_pos rfl,if_neg (λe=>hb e.symm),if_pos rfl]
    . rw[if_neg h,if_neg h];exact ih
theorem ve{w:aL}:∀(l:List al) {g:List (Bs×List Int)} {m:Nat},jW w m g->(∀p∈l,bn w p.host=true)->jW w (m+l.length) (cM w g l)
 |[],g,m,h,_=>h
 |p::t,g,m,h,hp=>by
  show jW w (m+(t.length+1)) (cM w (jd w g p) t)
  rw[show m+(t.length+1)=(m+1)+t.length by omega];refine ve t (λa=>?_) λq hq=>hp q (bk _ hq)
  unfold jd;split
  . rw[Gk];split
    . rename_i e;have h1:=h p.zone.apex;refine⟨by simp;omega,λn hn=>?_⟩;rcases List.mem_append.1 hn with hn|hn
      . exact h1.2 n hn
      . rw[List.mem_singleton.1 hn];exact hp p (List.mem_cons_self ..)
    . exact⟨by have:=(h a).1;omega,(h a).2⟩
  . exact⟨by have:=(h a).1;omega,(h a).2⟩
theorem vf(w:aL):jW w 0 []:=λa=>⟨Nat.le_refl _,λn hn=>by cases hn⟩
theorem za{o:aY}{z:aD}{m:Nat}(hw:∀p∈o.w.zones,bn o.w p.host=true)(hg:jW o.w m o.got):(du z o.w.zones++dH z (bH o.got z.apex)).length<=o.w.zones.length+m/\ ∀p∈du z o.w.zones++dH z (bH o.got z.apex),p.zone=z/\bn o.w p.host=true:=by
 refine⟨?_,λp hp=>?_⟩
 . have h1:=List.length_filter_le (λp:al=>p.zone.apex==z.apex) o.w.zones;have h2:=(hg z.apex).1;unfold du dH;rw[List.length_append,an,an];omega
 . rcases List.mem_append.1 hp with hp|hp
   . unfold du at hp;obtain⟨q,hq,rfl⟩:=List.mem_map.1 hp;exact⟨rfl,hw q (List.mem_filter.1 hq).1⟩
   . unfold dH at hp;obtain⟨n,hn,rfl⟩:=List.mem_map.1 hp;exact⟨rfl,(hg z.apex).2 n hn⟩
def qE(w:aL)(A:List Bs)(p:al):Prop:=bn w p.host=true/\p.zone.apex∈A
theorem NA{o o2:aY}{x:bc}(h:qi o x=some o2)(hw:∀p∈o.w.zones,bn o.w p.host=true)(hn:o.w.zones.length<=20)(hz:o.zone.apex=x.zone)(hh:∀n∈x.hosts,bn o.w n=true)(hl:x.hosts.length<=8)(hs:o.stages=[])(hg:o.got=[]) :
 eW (qE o.w [x.zone,(cv o.w.zones x.zone).1.apex]) 3 o2:=by
 unfold qi at h;split at h
 case isFalse=>cases h
 generalize cv o.w.zones x.zone=ab at h
 unfold rG at h;split at h
 . cases h
 rename_i z1 hz1;split at h
 . cases h
 rename_i z2 hz2;cases h;have a1:z1.apex=x.zone:=by rw[jo hz1];unfold rF;rw[fY,nB];exact hz
 have a2:z2.apex=ab.1.apex:=by rw[jo hz2];unfold rF;rw[fY,nB]
 have hgl:=Gj o x x.hosts;have g0:∀p∈dA o x x.hosts,qE o.w [x.zone,ab.1.apex] p:=λp hp=>by
  unfold dA at hp;obtain⟨n,hn,rfl⟩:=List.mem_map.1 hp;exact⟨hh n (List.mem_filter.1 hn).1,by rw[show(⟨n,o.zone⟩:al).zone.apex=o.zone.apex from rfl,hz];exact List.mem_cons_self ..⟩
 have s0:eW (qE o.w [x.zone,ab.1.apex]) 0 {o with puts:=dA o x x.hosts}:=⟨by rw[show({o with puts:=dA o x x.hosts}:aY).stages=o.stages from rfl,hs];exact Nat.le_refl _,λs hs' =>by rw[show({o with puts:=dA o x x.hosts}:aY).stages=o.stages from rfl,hs]at hs';cases hs'⟩
 have s1:=s0.fin (o' :=dE {o with puts:=dA o x x.hosts}) (by(show(dA o x x.hosts).length<=2000);omega) g0 rfl;have gk:jW o.w (0+(dA o x x.hosts).length) (dE {o with puts:=dA o x x.hosts}).got:=by
  show jW o.w _ (cM o.w o.got (dA o x x.hosts))
  rw[hg];exact ve _ (vf _) λp hp=>(g0 p hp).1
 obtain⟨l1,p1⟩:=za (o:=dE {o with puts:=dA o x x.hosts}) (z:=z1) hw gk;obtain⟨l2,p2⟩:=za (o:=aX (dE {o with puts:=dA o x x.hosts}) z1) (z:=z2) hw gk;have ew:(dE {o with puts:=dA o x x.hosts}).w=o.w:=rfl;have ew2:(aX (dE {o with puts:=dA o x x.hosts}) z1).w=o.w:=rfl;rw[ew]at l1 p1;rw[ew2]at l2 p2;have ep:(aX (aX (dE {o with puts:=dA o x x.hosts}) z1) z2).puts=(du z1 o.w.zones++dH z1 (bH (dE {o with puts:=dA o x x.hosts}).got z1.apex))++(du z2 o.w.zones++dH z2 (bH (aX (dE {o with puts:=dA o x x.hosts}) z1).got z2.apex)):=by
  show(([]++du z1 _++dH z1 _)++du z2 _++dH z2 _)=_
  simp[List.append_assoc];rfl
 have s2:=eW.fin (o:=aX (aX (dE {o with puts:=dA o x x.hosts}) z1) z2) (o' :=cE (aX (aX (dE {o with puts:=dA o x x.hosts}) z1) z2)) ⟨s1.num,s1.st⟩ (by rw[ep,List.length_append];omega) (λp hp=>by
  rw[ep]at hp;rcases List.mem_append.1 hp with hp|hp
  . obtain⟨e1,e2⟩:=p1 p hp;exact⟨e2,by rw[e1,a1];exact List.mem_cons_self ..⟩
  . obtain⟨e1,e2⟩:=p2 p hp;exact⟨e2,by rw[e1,a2];simp⟩) rfl
 have hst:=Ej x o.w.zones;refine eW.fin (o:={cE (aX (aX (dE {o with puts:=dA o x x.hosts}) z1) z2)with puts:=fD x o.w.zones}) (n:=2) ⟨s2.num,s2.st⟩ (by(show(fD x o.w.zones).length<=2000);omega) (λp hp=>?_) rfl;have hp:p∈fD x o.w.zones:=hp;unfold fD at hp;obtain⟨q,hq,rfl⟩:=List.mem_map.1 hp;exact⟨hw q (List.mem_filter.1 hq).1,List.mem_cons_self ..⟩
theorem ou{o:aY}{z:aD}{P:al->Prop}{n m:Nat}(h:eW P n o)(hp0:o.puts=[])(hw:∀p∈o.w.zones,bn o.w p.host=true)(hg:jW o.w m o.got)(hm:o.w.zones.length+m<=2000)(hP:∀p:al,p.zone=z->bn o.w p.host=true->P p):eW P (n+1) (cE (aX o z)):=by
 obtain⟨l1,p1⟩:=za (o:=o) (z:=z) hw hg;have ep:(aX o z).puts=du z o.w.zones++dH z (bH o.got z.apex):=by
  show o.puts++du z _++dH z _=_
  rw[hp0,List.nil_append]
 refine eW.fin (o:=aX o z) (o' :=cE (aX o z)) ⟨h.num,h.st⟩ (by rw[ep];omega) (λp hp=>?_) rfl;rw[ep]at hp;exact hP p (p1 p hp).1 (p1 p hp).2
theorem Al{P:al->Prop}{o:aY}(h:o.stages=[]):eW P 0 o:=⟨by rw[h];exact Nat.le_refl _,λs hs=>by rw[h]at hs;cases hs⟩
theorem Ns{o o2:aY}{x:bc}(h:qg o x=some o2)(hw:∀p∈o.w.zones,bn o.w p.host=true)(hn:o.w.zones.length<=20)(hz:o.zone.apex=x.zone)(hs:o.stages=[])(hp0:o.puts=[])(hg:o.got=[]) :
 eW (qE o.w [x.zone,(cv o.w.zones x.zone).1.apex]) 3 o2:=by
 unfold qg at h;split at h
 case isFalse=>cases h
 generalize cv o.w.zones x.zone=ab at h
 unfold Dz at h;split at h
 case isFalse=>cases h
 split at h
 . cases h
 rename_i z hz1;unfold pf at h;split at h
 case isFalse=>cases h
 split at h
 . cases h
 rename_i z2 hz2;unfold yh at h;split at h
 . cases h
 rename_i z3 hz3;cases h;have a1:z.apex=x.zone:=by rw[jo hz1,nB];exact hz
 have a2:z2.apex=ab.1.apex:=by rw[jo hz2,nB]
 have a3:z3.apex=x.zone:=by rw[jo hz3,nB];exact a1
 have g:jW o.w 0 o.got:=by rw[hg];exact vf _
 have s1:=ou (z:=z) (Al (P:=qE o.w [x.zone,ab.1.apex]) hs) hp0 hw g (by omega) λp e1 e2=>⟨e2,by rw[e1,a1];exact List.mem_cons_self ..⟩
 have s2:=ou (z:=z2) s1 rfl hw g (by(show o.w.zones.length+0<=2000);omega) λp e1 e2=>⟨e2,by rw[e1,a2];simp⟩
 exact ou (z:=z3) s2 rfl hw g (by(show o.w.zones.length+0<=2000);omega) λp e1 e2=>⟨e2,by rw[e1,a3];exact List.mem_cons_self ..⟩
theorem Lx{o o2:aY}{x:bc}(h:pK o x=some o2)(hw:∀p∈o.w.zones,bn o.w p.host=true)(hn:o.w.zones.length<=20)(hz:o.zone.apex=x.zone)(hh:∀n∈x.hosts,bn o.w n=true)(hl:x.hosts.length<=8)(hs:o.stages=[])(hp0:o.puts=[])(hg:o.got=[]) :
 eW (qE o.w [x.zone,x.name]) 2 o2:=by
 unfold pK at h;split at h
 case isFalse=>cases h
 split at h
 . cases h
 rename_i part hpt;unfold oR oS at h;split at h
 . cases h
 rename_i z hz1;cases h;have a0:part.apex=x.name:=by
  rw[jo hpt];unfold Pd;rw[fY];rfl
 have a1:z.apex=x.zone:=by
  rw[jo hz1];unfold Eg;rw[fY];exact hz
 have g0:∀p∈dw part x.hosts,qE o.w [x.zone,x.name] p:=λp hp=>by
  unfold dw at hp;obtain⟨n,hn,rfl⟩:=List.mem_map.1 hp;exact⟨hh n hn,by rw[show(⟨n,part⟩:al).zone.apex=part.apex from rfl,a0];simp⟩
 have hpl:(dw part x.hosts).length=x.hosts.length:=by unfold dw;rw[an]
 have s1:=eW.fin (o:={o with puts:=dw part x.hosts}) (o' :=dE {o with puts:=dw part x.hosts}) (Al (P:=qE o.w [x.zone,x.name]) hs) (by(show(dw part x.hosts).length<=2000);omega) g0 rfl;have gk:jW o.w (0+(dw part x.hosts).length) (dE {o with puts:=dw part x.hosts}).got:=by
  show jW o.w _ (cM o.w o.got (dw part x.hosts))
  rw[hg];exact ve _ (vf _) λp hp=>(g0 p hp).1
 exact ou (o:=dE {o with puts:=dw part x.hosts}) (z:=z) s1 rfl hw gk (by(show o.w.zones.length+_<=2000);omega) λp e1 e2=>⟨e2,by rw[e1,a1];exact List.mem_cons_self ..⟩
theorem wH{o:aY}{x:bc}{ad:Datum}{m:Nat}(hw:∀p∈o.w.zones,bn o.w p.host=true)(hg:jW o.w m o.got):∀(l:List Bs) {ps qs:List al},kG o x ad l ps=some qs->(∀p∈ps,bn o.w p.host=true)->qs.length<=ps.length+l.length*(o.w.zones.length+m)/\ ∀p∈qs,bn o.w p.host=true
 |[],ps,qs,h,hp=>by
  unfold kG at h;cases h;exact⟨by simp,hp⟩
 |a::t,ps,qs,h,hp=>by
  unfold kG at h;split at h
  . split at h
    . cases h
    . rename_i z hz;obtain⟨l1,p1⟩:=za (o:=o) (z:=z) hw hg;have:=wH hw hg t h (λp hp' =>by
       simp only[List.append_assoc]at hp';rcases List.mem_append.1 hp' with hp' |hp'
       . exact hp p hp'
       . exact(p1 p hp').2)
      refine⟨?_,this.2⟩;have h1:=this.1;simp only[List.length_append,List.length_cons,Nat.add_mul]at h1 l1 ⊢;omega
  . have:=wH hw hg t h hp;refine⟨?_,this.2⟩;have h1:=this.1;simp only[List.length_cons,Nat.add_mul];omega
theorem Mh{o o2:aY}{x:bc}{host:Int}(h:rS o x host=some o2)(hw:∀p∈o.w.zones,bn o.w p.host=true)(hn:o.w.zones.length<=20)(hh:bn o.w host=true)(hs:o.stages=[])(hp0:o.puts=[])(hg:o.got=[]) :
 eW (λp=>bn o.w p.host=true) 3 o2:=by
 unfold rS at h;split at h
 case isFalse=>cases h
 unfold Ci at h;generalize hgl:dR o host (cP (λp=>(mW (wfR o.zone x.name 1).1.data host 0 o.w.hosts).contains p.host) o.w.zones)=gl at h;generalize mW (wfR o.zone x.name 1).1.data host 0 o.w.hosts=om at h hgl;have hgll:gl.length<=20:=by
  rw[<- hgl];have:=Dk o host (cP (λp=>om.contains p.host) o.w.zones);have:=mN (λp=>om.contains p.host) o.w.zones;omega
 have g0:∀p∈gl,bn o.w p.host=true:=λp hp=>by
  rw[<- hgl]at hp;unfold dR at hp;obtain⟨n,hn,rfl⟩:=List.mem_map.1 hp;exact hh
 unfold tj at h;split at h
 . cases h
 rename_i ps hps;cases h;have s1:=eW.fin (o:={o with puts:=gl}) (o' :=dE {o with puts:=gl}) (Al (P:=λp=>bn o.w p.host=true) hs) (by(show gl.length<=2000);omega) g0 rfl;have gk:jW o.w (0+gl.length) (dE {o with puts:=gl}).got:=by
  show jW o.w _ (cM o.w o.got gl)
  rw[hg];exact ve _ (vf _) g0
 have hpl:=wH (o:=dE {o with puts:=gl}) hw gk _ hps (λp hp=>by cases hp);have hal:=mN (λ_=>true) o.w.zones;have hlen:ps.length<=2000:=by
  have h1:=hpl.1;have h2:(cP (λ_=>true) (dE {o with puts:=gl}).w.zones).length*((dE {o with puts:=gl}).w.zones.length+(0+gl.length))<=20*40:=Nat.mul_le_mul (by(show(cP (λ_=>true) o.w.zones).length<=20);omega) (by(show o.w.zones.length+(0+gl.length)<=40);omega);simp only[List.length_nil]at h1;omega
 have s2:=eW.fin (o:={dE {o with puts:=gl}with puts:=ps}) (o' :=cE {dE {o with puts:=gl}with puts:=ps}) ⟨s1.num,s1.st⟩ hlen hpl.2 rfl;have hst:=Bi om o.w.zones;refine eW.fin (o:={cE {dE {o with puts:=gl}with puts:=ps}with puts:=gL om o.w.zones}) ⟨s2.num,s2.st⟩ (by(show(gL om o.w.zones).length<=2000);omega) (λp hp=>?_) rfl;have hp:p∈gL om o.w.zones:=hp;unfold gL at hp;obtain⟨q,hq,rfl⟩:=List.mem_map.1 hp;exact hw q (List.mem_filter.1 hq).1
theorem Ni{w:aL}{n:Int}(h1:0<=n)(h2:n<(w.hosts.length:Int)):bn w n=true:=by
 unfold bn;simp[h1,h2]
theorem GK{w:aL}{x:bc}{since till:Int}{o:aY}(h:nc w x since till=some o)(hvw:eG w=true)(hx:eU w x=true)(hn:w.zones.length<=20) :
 eW (λp=>bn w p.host=true) 3 o/\(x.kind=1\/x.kind=2->eW (qE w [x.zone,(cv w.zones x.zone).1.apex]) 3 o)/\(x.kind=4->eW (qE w [x.zone,x.name]) 3 o)/\(x.kind=1\/x.kind=2->(cv w.zones x.zone).2=true)/\(x.kind=1\/x.kind=2\/x.kind=3\/x.kind=4):=by
 have hw:∀p∈w.zones,bn w p.host=true:=λp hp=>by
  obtain⟨_,h1,h2⟩:=gH hvw p hp;exact Ni h1 h2
 unfold eU at hx;simp only[aF,Bool.not_eq_true',Bool.or_eq_false_iff,Bool.not_eq_false']at hx;obtain⟨_,hc,hk⟩:=hx;have hza:(bS w.zones x.zone).1.apex=x.zone:=by
  rcases gj w.zones x.zone with ⟨p,hp,e,ea⟩|⟨e,_⟩
  . rw[e];exact ea
  . rw[e]at hc;cases hc
 unfold nc at h;split at h
 case isFalse=>cases h
 unfold vj at h;unfold jh at hk;by_cases k1:x.kind=1
 . rw[if_pos k1]at h;rw[if_pos k1,aF]at hk;obtain⟨hl,hl0,hh⟩:=mv hk.2;have hab:(cv w.zones x.zone).2=true:=by
    unfold qi at h;split at h
    . assumption
    . cases h
   have:=NA h hw hn hza hh hl rfl rfl;exact⟨this.mono λp hp=>hp.1,λ_=>this,λe=>by omega,λ_=>hab,.inl k1⟩
 rw[if_neg k1]at h hk;by_cases k2:x.kind=2
 . rw[if_pos k2]at h;have hab:(cv w.zones x.zone).2=true:=by
    unfold qg at h;split at h
    . assumption
    . cases h
   have:=Ns h hw hn hza rfl rfl rfl;exact⟨this.mono λp hp=>hp.1,λ_=>this,λe=>by omega,λ_=>hab,.inr (.inl k2)⟩
 rw[if_neg k2]at h hk;by_cases k3:x.kind=3
 . rw[if_pos k3]at h;rw[if_pos k3,aF]at hk;obtain⟨host,hho,hhw⟩:∃host,x.hosts=[host]/\bn w host=true:=by
    have h1:=hk.2;unfold px at h1;split at h1
    . rename_i n e;exact⟨n,e,h1⟩
    . cases h1
   have e:yd x=host:=by unfold yd;rw[hho]
   rw[e]at h;have:=Mh h hw hn hhw rfl rfl rfl;exact⟨this,λe=>by omega,λe=>by omega,λe=>by omega,.inr (.inr (.inl k3))⟩
 rw[if_neg k3]at h hk;by_cases k4:x.kind=4
 . rw[if_pos k4]at h;rw[if_pos k4,aF,aF]at hk;obtain⟨hl,hl0,hh⟩:=mv hk.1.2;have:=Lx h hw hn hza hh hl rfl rfl rfl;exact⟨(this.mono λp hp=>hp.1).more (by decide),λe=>by omega,λ_=>this.more (by decide),λe=>by omega,.inr (.inr (.inr k4))⟩
 rw[if_neg k4]at hk;cases hk
theorem yL{z:aD}(hv:aR z=true):eN z=fb z:=by
 have ho:=bX hv;obtain⟨k,s,hk,hs,hp⟩:=OO (An.1 hv).start;unfold eN fb;rw[JP ho.rising.pw hs hp,hs,Da];unfold atI at hk;cases hf:z.sets.findIdx? (is ⟨z.apex,4⟩)with
 |none=>rw[hf]at hk;dsimp only at hk;omega
 |some i =>
  rw[hf]at hk;have:i=k:=by dsimp only at hk;omega
  subst this;dsimp only;rw[hs];cases hd:s.set.data <;> simp[hd]
theorem xJ{p q:al}(hp:aR p.zone=true)(hq:aR q.zone=true):(CD q p<0) ↔ jC p q=true:=by
 unfold CD;rw[wg hp hq,yL hp,yL hq];unfold cY;simp only[Bool.or_eq_true,aF,decide_eq_true_eq];split <;> split <;> (try split) <;> (try split) <;> (try split) <;> omega
theorem Cy(a:Bs):∀(l:List al) (i:Nat) (b:Option (Nat×al)),(∀p∈l,aR p.zone=true)->(∀x,b=some x->aR x.2.zone=true)->kH a b i l=iH (λp=>p.zone.apex==a) jC i l b
 |[],i,b,_,_=>rfl
 |p::t,i,b,hl,hb=>by
  have hp:=hl p (List.mem_cons_self ..);have e:mi a b i p=eA (λp=>p.zone.apex==a) jC i p b:=by
   unfold mi eA;by_cases h:p.zone.apex=a
   . rw[if_neg (by simp[h]),if_pos (by simp[h])];cases b with
     |none=>rfl
     |some x =>
      obtain⟨j,q⟩:=x;have hq:=hb _ rfl;dsimp only;by_cases hc:CD q p<0
      . rw[if_pos hc,if_pos ((xJ hp hq).1 hc)]
      . rw[if_neg hc,if_neg (λh=>hc ((xJ hp hq).2 h))]
   . rw[if_pos (by simp[h]),if_neg (by simp[h])]
  show kH a (mi a b i p) (i+1) t=iH _ jC (i+1) t (eA (λp=>p.zone.apex==a) jC i p b)
  rw[<- e];refine Cy a t (i+1) _ (λq hq=>hl q (bk _ hq)) λx hx=>?_
  unfold mi at hx;split at hx
  . exact hb x hx
  . split at hx
    . cases hx;exact hp
    . split at hx
      . cases hx;exact hp
      . cases hx;exact hb _ rfl
theorem ME{zs:List al}(hv:∀p∈zs,aR p.zone=true)(a:Bs):sd zs a=kI zs a:=Cy a zs 0 none hv λx hx=>by cases hx
theorem Ar(a:Bs):∀(l:List al) (i:Nat) (b x:Option (Nat×al)),(∀y,b=some y->y.2.zone.apex=a)-> ∀y,iH (λp=>p.zone.apex==a) jC i l b=some y->y.2.zone.apex=a
 |[],i,b,_,hb,y,h=>hb y h
 |p::t,i,b,x,hb,y,h=>by
  refine Ar a t (i+1) _ x (λz hz=>?_) y h;split at hz
  . rename_i hp;split at hz
    . cases hz;simpa using hp
    . split at hz
      . cases hz;simpa using hp
      . exact hb z hz
  . exact hb z hz
theorem xQ{zs:List al}{a:Bs}{k:Nat}{p:al}(h:kI zs a=some (k,p)):zs[k]? =some p/\p.zone.apex=a:=⟨CJ zs a _ h,Ar a zs 0 none none (λy hy=>by cases hy) _ h⟩
theorem Hp{zs:List al}{a:Bs}(h:kI zs a=none):∀p∈zs,p.zone.apex≠a:=λp hp e=>by
 have:=((As zs 0 none).1 h).2 p hp;simp[e]at this
theorem Pz{zs:List al}(hv:∀p∈zs,aR p.zone=true){a:Bs}{k:Nat}{p:al}(h:kI zs a=some (k,p)):bS zs a=(p.zone,true):=by
 unfold bS;rw[ME hv,h]
theorem Jp{n a b:Bs}(ha:bd n a=true)(hb:bd n b=true):bd a b=true\/bd b a=true:=by
 unfold bd at *
 rw[List.isSuffixOf_iff_suffix]at ha hb ⊢;rw[List.isSuffixOf_iff_suffix];rcases List.suffix_or_suffix_of_suffix ha hb with h|h
 . exact .inr h
 . exact .inl h
def wG(apex a:Bs)(l:List al):Prop:=(∃p∈l,p.zone.apex=a)/\a≠apex/\bd apex a=true/\ ∀p∈l,p.zone.apex≠apex->bd apex p.zone.apex=true->bd a p.zone.apex=true
theorem xw{apex:Bs}(hva:aQ apex=true):∀(l:List al),(∀p∈l,aQ p.zone.apex=true)-> ∀(pre:List al) (x:Bs×Bool),(∀p∈pre,aQ p.zone.apex=true) ->
 (x.2=true->wG apex x.1 pre)->(x.2=false-> ∀p∈pre,p.zone.apex≠apex->bd apex p.zone.apex=false) ->
 ((l.foldl (kb apex) x).2=true->wG apex (l.foldl (kb apex) x).1 (pre++l))/\((l.foldl (kb apex) x).2=false-> ∀p∈pre++l,p.zone.apex≠apex->bd apex p.zone.apex=false)
 |[],_,pre,x,_,h1,h2=>by
  rw[List.append_nil];exact⟨h1,h2⟩
 |p::t,hl,pre,x,hpre,h1,h2=>by
  have hp:=hl p (List.mem_cons_self ..);have hu:(bo apex p.zone.apex).1=bd apex p.zone.apex:=by unfold bo;rw[if_pos ⟨hva,hp⟩]
  have e:pre++p::t=(pre++[p])++t:=by simp
  rw[e,List.foldl_cons];refine xw hva t (λq hq=>hl q (bk _ hq)) (pre++[p]) (kb apex x p) (λq hq=>?_) (λhx=>?_) λhx=>?_
  . rcases List.mem_append.1 hq with hq|hq
    . exact hpre q hq
    . rw[List.mem_singleton.1 hq];exact hp
  . unfold kb at hx ⊢;rw[hu]at hx ⊢;split at hx
    . rename_i hc;rw[if_pos hc];simp only[aF,bne_iff_ne,ne_eq,Bool.or_eq_true,Bool.not_eq_true']at hc;refine⟨⟨p,List.mem_append.2 (.inr (List.mem_cons_self ..)),rfl⟩,hc.1.1,hc.1.2,λq hq hqn hqu=>?_⟩;rcases List.mem_append.1 hq with hq|hq
      . rcases hc.2 with hf|hf
        . rw[h2 hf q hq hqn]at hqu;cases hqu
        . cases hx2:x.2 with
          |false=>rw[h2 hx2 q hq hqn]at hqu;cases hqu
          |true =>
           obtain⟨⟨y,hy,ey⟩,_,_,h4⟩:=h1 hx2;have hxv:aQ x.1=true:=by rw[<- ey];exact hpre y hy
           have:bd p.zone.apex x.1=true:=by
            unfold bo at hf;rw[if_pos ⟨hp,hxv⟩]at hf;exact hf
           exact wx this (h4 q hq hqn hqu)
      . rw[List.mem_singleton.1 hq];exact ra _
    . rename_i hc;rw[if_neg hc];obtain⟨⟨y,hy,ey⟩,g2,g3,g4⟩:=h1 hx;refine⟨⟨y,List.mem_append.2 (.inl hy),ey⟩,g2,g3,λq hq hqn hqu=>?_⟩;rcases List.mem_append.1 hq with hq|hq
      . exact g4 q hq hqn hqu
      . rw[List.mem_singleton.1 hq]at hqn hqu ⊢;have hxv:aQ x.1=true:=by rw[<- ey];exact hpre y hy
        have hnot:bd p.zone.apex x.1=false:=by
         cases h:bd p.zone.apex x.1 with
         |false=>rfl
         |true =>
          exfalso
          refine hc ?_;have:(bo p.zone.apex x.1).1=true:=by unfold bo;rw[if_pos ⟨hp,hxv⟩];exact h
          rw[this,hqu];simp[hqn]
        rcases Jp g3 hqu with h|h
        . exact h
        . rw[hnot]at h;cases h
  . unfold kb at hx;rw[hu]at hx;split at hx
    . cases hx
    . rename_i hc;intro q hq hqn;rcases List.mem_append.1 hq with hq|hq
      . exact h2 hx q hq hqn
      . rw[List.mem_singleton.1 hq]at hqn ⊢;cases h:bd apex p.zone.apex with
        |false=>rfl
        |true =>
         exfalso
         refine hc ?_;rw[h,hx];simp[hqn]
theorem vF{zs:List al}{apex a:Bs}(hv:∀p∈zs,aR p.zone=true)(ht:wG apex a zs):∀(f:Nat) (m:Bs),aQ m=true->bd apex m=true->bd m a=true->m≠a->(bU m).length<f ->
 ∃k p,kI zs a=some (k,p)/\mL zs apex f m=if (wfR p.zone apex 2).2=true then(k:Int)else -1
 |0,m,_,_,_,_,hf=>by omega
 |f+1,m,hm,hum,hma,hne,hf=>by
  obtain⟨k1,k2,k3⟩:=Et hm hma hne;obtain⟨⟨y,hy,ey⟩,g2,g3,g4⟩:=ht;have hpv:=pA hm;rw[mL,if_neg k1];have hup:bd apex (cF m)=true:=wx hum (uu hm);by_cases hpa:cF m=a
  . rw[hpa];cases hc:kI zs a with
    |none=>exact absurd ey (Hp hc y hy)
    |some x =>
     obtain⟨k,p⟩:=x;exact⟨k,p,rfl,rfl⟩
  . cases hc:kI zs (cF m)with
    |some x =>
     exfalso
     obtain⟨k,p⟩:=x;obtain⟨e1,e2⟩:=xQ hc;have hpm:=au e1;have hpn:p.zone.apex≠apex:=λe=>by
      rw[e2]at e;have h1:bd (cF m) m=true:=by rw[e];exact hum
      have h2:=zh h1 (uu hm);rw[h2]at k3;omega
     have:=g4 p hpm hpn (by rw[e2];exact hup);rw[e2]at this;exact hpa (zh k2 this)
    |none=>exact vF hv ⟨⟨y,hy,ey⟩,g2,g3,g4⟩ f (cF m) hpv hup k2 hpa (by omega)
theorem JD{zs:List al}{apex:Bs}(hv:∀p∈zs,aR p.zone=true)(hva:aQ apex=true)(h:(cv zs apex).2=true):∃(k:Nat) (p:al),nz zs apex=k/\zs[k]? =some p/\(cv zs apex).1=p.zone:=by
 have hvn:∀p∈zs,aQ p.zone.apex=true:=λp hp=>(bX (hv p hp)).apex
 have htop:=(xw hva zs hvn [] ([],false) (λp hp=>by cases hp) (λh=>by cases h) (λ_ p hp=>by cases hp)).1;rw[List.nil_append]at htop;unfold cv at h ⊢;split at h
 case isFalse=>cases h
 rename_i h1;rw[if_pos h1];have ht:=htop h1;split at h
 case isFalse=>cases h
 rename_i h2;rw[if_pos h2];have hun:bd apex (ka apex zs).1=true:=ht.2.2.1;obtain⟨k,p,hc,hg⟩:=vF hv ht ((bU apex).length+1) apex hva (ra _) hun (λe=>ht.2.1 e.symm) (by omega);have hcz:=Pz hv hc;have e1:(ka apex zs).1=(List.foldl (kb apex) ([],false) zs).1:=rfl;rw[e1]at h2 ⊢;rw[hcz]at h2 ⊢;dsimp only at h2;rw[if_pos h2]at hg;refine⟨k,p,?_,(xQ hc).1,rfl⟩;unfold nz;rw[if_pos hva];exact hg
theorem tq{cx:Cx}{st st1:St}{X:St->Prop}(hw:aC cx st st1)(h:App X st1):∃st',aC cx st st' /\X st' :=⟨st1,hw,h⟩
theorem Sl{n:Int}(h:0<=n):decide (n>=0)=true:=decide_eq_true h
def Mb(w:aL)(x:bc)(ab:Bs)(p:al):Prop:=bn w p.host=true/\(p.zone.apex=x.zone\/p.zone.apex=ab\/(x.kind=4/\p.zone.apex=x.name))
set_option maxHeartbeats 8000000 in
theorem Lg(w:aL)(x:bc)(since till:Int)(r:Option (List (List al)))(W:List aL)
 (hHead:NQ.Fn cx 7 [] (.d (.bool true)) [])
 (hSt:NQ.Fn cx 8 [.agg (bt w),.agg (aT x),.int .i64 since,.int .i64 till] (match r with|some l=> .tuple [.d (.slice 1 (l.map cg)),.d (.slice 7 (W.map bt)),.d (.bool true)]|none=> .tuple [.d (.slice 1 []),.d (.slice 7 []),.d (.bool false)]) [])
 (hr:∀l,r=some l->x.kind≠3->(∀p∈w.zones,aR p.zone=true)/\w.zones.length<=20/\l.length<=3/\(x.kind≠4-> ∃(k:Nat) (p:al),nz w.zones x.zone=k/\w.zones[k]? =some p/\ ∀s∈l,s≠[]/\s.length<=2000/\ ∀q∈s,Mb w x p.zone.apex q)/\(x.kind=4-> ∀s∈l,s≠[]/\s.length<=2000/\ ∀q∈s,Mb w x [] q)) :
 NQ.Fn cx 4 [.agg (bt w),.agg (aT x),.int .i64 since,.int .i64 till] (.d (.bool true)) []:=by
 refine eO (fun|9=>[55555]|_=>[]) aV mixed Tryz.func4 (by kernel_rfl) rfl (ag rfl) ?_
 conv=>whnf
 (refine⟨_,_,hHead,?_⟩;conv=>whnf)
 (refine⟨_,_,hSt,?_⟩;conv=>whnf)
 cases r with
 |none =>
  conv=>whnf
  exact aj rfl rfl
 |some l =>
 conv=>whnf
 by_cases k3:x.kind=3
 . rw[show(x.kind==3)=true by simp[k3]]
   conv=>whnf
   exact aj rfl rfl
 rw[show(x.kind==3)=false by simp[k3]]
 conv=>whnf
 obtain⟨hv,hn,hl3,hkA,hkB⟩:=hr l rfl k3;have fA:=JE w x.zone hv (by omega)
 (refine⟨_,_,fA,?_⟩;conv=>whnf)
 apply rq (α:=Bs) (P:=λab=> ∀s∈l,s≠[]/\s.length<=2000/\ ∀q∈s,Mb w x ab q) (canon:=λab=>⟨[(4,.ptr 4 0),(5,.ptr 5 0),(9,.d (.bool true)),(10,.d (.slice 1 (l.map cg))),(13,.d (.str ab))],[(4,.box ((bt w).map .d)),(5,.box ((aT x).map .d))]⟩)
 . intro rest;by_cases k4:x.kind=4
   . have hP:=hkB k4;refine af (λh1=>?_) (λh1=>?_) <;> (rw[h1];conv=>whnf)
     . rw[show(x.kind != 4)=false by simp[k4]]
       conv=>whnf
       exact tq (aC.keep) (rest [] hP)
     . exact tq (aC.keep) (rest [] hP)
   . obtain⟨k,p,ek,hp,hP⟩:=hkA k4;rw[ek,Sl (aw k)]
     conv=>whnf
     rw[show(x.kind != 4)=true by simp[k4]]
     conv=>whnf
     refine⟨aw k,aA p,aB hp,?_⟩
     conv=>whnf
     exact tq (aC.keep) (rest p.zone.apex hP)
 intro ab hP;unfold App
 conv=>whnf
 refine⟨Nat,λk=>⟨[(4,.ptr 4 0),(5,.ptr 5 0),(9,.d (.bool true)),(10,.d (.slice 1 (l.map cg))),(13,.d (.str ab)),(56,.d (.slice 1 (l.map cg))),(57,.d (.int .i64 ((l.map cg).length:Int))),(58,.d (.int .i64 k))],[(4,.box ((bt w).map .d)),(5,.box ((aT x).map .d))]⟩,λk=>k<=l.length,λk=>l.length-k,
  ⟨0,Nat.zero_le _,aC.keep⟩,?_⟩
 intro k hk
 conv=>whnf
 refine af (λh1=>?_) (λh1=>?_) <;> (rw[h1];conv=>whnf)
 . have hlt:k<l.length:=by simp at h1;omega
   obtain⟨s,hs⟩:∃s,l[k]? =some s:=⟨_,ai hlt⟩
   obtain⟨hne,hsl,hq⟩:=hP s (au hs);refine⟨aw k,cg s,aB hs,?_⟩
   conv=>whnf
   rw[show(((s.map aA).length:Int)==0)=false by
    have:s.length≠0:=λe=>hne (List.eq_nil_of_length_eq_zero e)
    simp;omega]
   conv=>whnf
   refine⟨Nat,λj=>⟨[(4,.ptr 4 0),(5,.ptr 5 0),(9,.d (.bool true)),(10,.d (.slice 1 (l.map cg))),(13,.d (.str ab)),(56,.d (.slice 1 (l.map cg))),(57,.d (.int .i64 ((l.map cg).length:Int))),(58,.d (.int .i64 k)),(67,.d (.slice 3 (s.map aA))),(68,.d (.int .i64 ((s.map aA).length:Int))),(69,.d (.int .i64 j))],[(4,.box ((bt w).map .d)),(5,.box ((aT x).map .d))]⟩,λj=>j<=s.length,λj=>s.length-j,
    ⟨0,Nat.zero_le _,aC.keep⟩,?_⟩
   intro j hj
   conv=>whnf
   refine af (λh2=>?_) (λh2=>?_) <;> (rw[h2];conv=>whnf)
   . have hjl:j<s.length:=by simp at h2;omega
     obtain⟨p,hp⟩:∃p,s[j]? =some p:=⟨_,ai hjl⟩
     obtain⟨ph,pa⟩:=hq p (au hp);unfold bn at ph;simp only[aF,decide_eq_true_eq]at ph;have c1:decide (p.host<0)=false:=by simp;omega
     have c2:decide (p.host>=((w.hosts.map eh).length:Int))=false:=by simp;omega
     refine⟨aw j,aA p,aB hp,?_⟩
     conv=>whnf
     repeat' (first|(refine af (λh=>?_) (λh=>?_) <;> (rw[h];conv=>whnf))|fail)
     all_goals first
      |exact⟨j+1,hjl,by(show s.length-(j+1)<s.length-j;omega),aC.keep ⟨ae,ae,ae,ae,ae,ae,ae,ae,ae,ae,⟨ao (k:=j) (by omega),rfl⟩,trivial⟩⟩
      | (exfalso
         clear hP hq hkA hkB hr hSt hHead fA hv hn hk hl3 h1 h2 hs hp hj hjl hlt;rcases pa with e|e|⟨e1,e⟩ <;> first|(simp_all;done)|(simp_all;omega))
      |fail
   . obtain rfl:j=s.length:=by simp at h2;omega
     exact⟨k+1,hlt,by(show l.length-(k+1)<l.length-k;omega),aC.keep ⟨ae,ae,ae,ae,ae,ae,ae,⟨ao (k:=k) (by omega),rfl⟩,trivial⟩⟩
 . refine aj rfl ?_;show AV.d (D.bool (decide (((l.map cg).length:Int)<=3)))=_
   rw[decide_eq_true (by simp;omega)]
end Go.Proofs.YtodofogcincleaaGreatDoor
