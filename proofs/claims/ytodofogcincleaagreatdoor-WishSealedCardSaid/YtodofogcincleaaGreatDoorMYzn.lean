/-
  Merged texts.
-/
import Derived.Test.YtodofogcincleaaGreatDoorYzmM
import Derived.Test.YtodofogcincleaaGreatDoorMYzd
set_option linter.all false
set_option maxRecDepth 100000
namespace Go.Proofs.YtodofogcincleaaGreatDoor
open NQ Go NP Go.RowKit
def Hl(w:aL)(x:aY)(since till:Int):aX:=⟨w,since,till,(bz w.zones x.zone).1,(wfR (bz w.zones x.zone).1 x.zone 2).1.life,[],[],[]⟩
def yE(x:aY):Int:=match x.hosts with|n::_=>n|[]=>0
def tc(o:aX)(x:aY):Option aX:=if x.kind=1 then nV o x else if x.kind=2 then nU o x else if x.kind=3 then oT o x (yE x)else if x.kind=4 then nj o x else some o
def mu(w:aL)(x:aY)(since till:Int):Option aX:=if (wfR (bz w.zones x.zone).1 x.zone 2).2=true then tc (Hl w x since till) x else none
noncomputable def gE:Cx:={cx with chg:=fY [(62,10),(63,11),(64,9),(65,9),(66,9),(67,9)]}
theorem Kb:ba gE:=aV
theorem AA:gE.P.follows .mixedOrders=true:=mixed
def NN:Nat->List Nat:=fun|5=>[33333,55555]|6=>[33333,55555]|7=>[55555]|9=>[33333]|11=>[33333]|13=>[33333]|15=>[33333]|16=>[90041]|_=>[]
noncomputable abbrev oD:Code:=(Tryz.f29).body.getD .skip
def xm(a b:AV):List (Nat×Blk):=[(100008,.box [a]),(100009,.box [b])]
def QpS(r:Option aX):St->Prop:=λst=>r=none/\st.get 8= .ptr 100008 0/\st.get 9= .ptr 100009 0/\(∃c,find st.heap 100008=some (.box [c]))/\ ∃c,find st.heap 100009=some (.box [c])
def QrS(r:Option aX):Ex->St->Prop:=λe st=>match e with
 | .ret=> ∃o,r=some o/\ah gE [100034] st ⟨[(8,.ptr 100008 0),(9,.ptr 100009 0)],xm (.d (.slice 1 (o.stages.map bV))) (.d (.int .i64 0))⟩
 |_=>False
def stS(w:aL)(x:aY)(since till:Int):St:=⟨[(2,.d (.int .i64 since)),(3,.d (.int .i64 till)),(4,.ptr 4 0),(5,.ptr 5 0),(8,.ptr 100008 0),(9,.ptr 100009 0)],(4,.box ((bn w).map .d))::(5,.box ((aS x).map .d))::xm (.nil 1) (.d (.int .i64 0))⟩
theorem wI{w:aL}:∀(l:List Int) {seen:List Bs},kN w seen l=true-> ∀n∈l,bk w n=true
 |[],_,_,n,hn=>by cases hn
 |m::t,seen,h,n,hn=>by
  unfold kN at h;simp only[aH]at h;rcases List.mem_cons.1 hn with rfl|hn
  . exact h.1.1
  . exact wI t h.2 n hn
theorem mV{w:aL}{l:List Int}(h:fP w l=true):l.length<=8/\l≠[]/\ ∀n∈l,bk w n=true:=by
 unfold fP at h;simp only[aH,Bool.not_eq_true',Bool.or_eq_false_iff,decide_eq_false_iff_not]at h;refine⟨by omega,λe=>?_,wI l h.2⟩;subst e;simp at h
attribute [local irreducible] NQ.FnP
set_option maxHeartbeats 8000000 in
theorem Gl(w:aL)(x:aY)(since till:Int)(hv:∀p∈w.zones,aR p.zone=true)(hn:w.zones.length<=20)(hnh:w.hosts.length<=1000)(hc:(bz w.zones x.zone).2=true)(hk:iW w x=true) :
 vcp gE [100034] pvW (Tryz.f29).ntmps NN (QpS (mu w x since till)) ((fG 4 oD).getD .skip) (QrS (mu w x since till)) (stS w x since till):=by
 conv=>whnf
 have hC:=lift (cx' :=gE) (iz w x.zone hv (by omega)) rfl rfl;have hrr:∃r,r=mu w x since till:=⟨_,rfl⟩
 obtain⟨r,hr⟩:=hrr;rw[<- hr];unfold mu Hl at hr;have hz0:(bz w.zones x.zone).2=true->aR (bz w.zones x.zone).1=true:=λh=>by
  rcases eF w.zones x.zone with ⟨p,hp,e,_⟩|⟨e,_⟩
  . rw[e];exact hv p hp
  . rw[e]at h;cases h
 have hz:=hz0 hc;generalize bz w.zones x.zone=c at hC hr hz hc;obtain⟨c,c2⟩:=c;dsimp only at hC hr hz hc;subst hc;refine⟨_,ah.trans (ah.keep (sl:=[(4,.ptr 4 0),(5,.ptr 5 0),(8,.ptr 100008 0),(9,.ptr 100009 0),(10,.ptr 34 0)]) (h:=(34,.box ((bn w).map .d++[.d (.int .i64 since),.d (.int .i64 till),.d (.str []),.nil 5,.d (.int .i64 0),.omap 32,.nil 3,.nil 1]))::(32,.smap [])::(4,.box ((bn w).map .d))::(5,.box ((aS x).map .d))::xm (.nil 1) (.d (.int .i64 0))))
  (ah.trans (ah.name 34 100034 rfl rfl) (ah.trans (ah.name 32 90032 rfl rfl) (ah.trans (ah.iH 100034 13 90040 3 _ 45 3 rfl rfl rfl (by decide)) (ah.trans (ah.iH 100034 14 90041 1 _ 40 1 rfl rfl rfl (by decide))
  (ah.keep (sl:=[(5,.ptr 5 0),(8,.ptr 100008 0),(9,.ptr 100009 0),(10,.ptr 100034 0)]) (h:=(5,.box ((aS x).map .d))::(100008,.box [.nil 1])::(100009,.box [.d (.int .i64 0)])::(100034,.box ((bn w).map .d++[.d (.int .i64 since),.d (.int .i64 till),.d (.str []),.nil 5,.d (.int .i64 0),.omap 90032,.own 90040,.own 90041]))::(90032,.smap [])::(90040,.row 45 3 [])::(90041,.row 40 1 [])::[])))))),?_⟩
 conv=>whnf
 (refine⟨(by kernel_rfl:bA _=true),?_⟩;conv=>whnf)
 have hC:=bB (pv' :=pvW) hC;refine⟨[5,100008,100009,100034,90032,90040,90041],_,hC,⟨rfl,rfl,rfl⟩,?_⟩
 conv=>whnf
 refine aA ?_
 conv=>whnf
 repeat (refine And.intro (by kernel_rfl:NQ.viewAt _ _ _ _=NQ.viewAt _ _ _ _) ?_;conv=>whnf)
 refine⟨_,ah.keep (sl:=[(5,.ptr 5 0),(8,.ptr 100008 0),(9,.ptr 100009 0),(10,.ptr 100034 0)]) (h:=(5,.box ((aS x).map .d))::(100008,.box [.nil 1])::(100009,.box [.d (.int .i64 0)])::(100034,.box ((bn w).map .d++[.d (.int .i64 since),.d (.int .i64 till),.d (.str c.apex),.d (.slice 5 (c.sets.map ak)),.d (.int .i64 0),.omap 90032,.own 90040,.own 90041]))::(90032,.smap [])::(90040,.row 45 3 [])::(90041,.row 40 1 [])::[]),?_⟩
 conv=>whnf
 have hN:=tg c x.zone 2 (by have:=(cU hz).1;omega);generalize wfR c x.zone 2=s2 at hN hr;obtain⟨s2,b2⟩:=s2;dsimp only at hN hr;cases b2 with
 |false =>
  rw[if_neg (by decide)]at hN hr;have hN:=lift (cx' :=gE) hN rfl rfl
  (refine⟨(by kernel_rfl:bA _=true),?_⟩;conv=>whnf)
  refine⟨[5,100008,100009,100034,90032,90040,90041],_,hN,⟨rfl,rfl,rfl⟩,?_⟩;exact⟨hr,rfl,rfl,⟨_,rfl⟩,⟨_,rfl⟩⟩
 |true =>
 rw[if_pos rfl]at hN hr;have hN:=lift (cx' :=gE) hN rfl rfl
 (refine⟨(by kernel_rfl:bA _=true),?_⟩;conv=>whnf)
 refine⟨[5,100008,100009,100034,90032,90040,90041],_,hN,⟨rfl,rfl,rfl⟩,?_⟩
 conv=>whnf
 refine aA ?_
 conv=>whnf
 repeat (refine And.intro (by kernel_rfl:NQ.viewAt _ _ _ _=NQ.viewAt _ _ _ _) ?_;conv=>whnf)
 generalize ho:aX.mk w since till c s2.life [] [] []=o at hr
 refine⟨_,ah.keep (sl:=[(5,.ptr 5 0),(8,.ptr 100008 0),(9,.ptr 100009 0),(10,.ptr 100034 0)]) (h:=(5,.box ((aS x).map .d))::(100008,.box [.nil 1])::(100009,.box [.d (.int .i64 0)])::bg o) (by repeat' (first|exact trivial|refine⟨⟨rfl,rfl⟩,?_⟩)) (by subst ho;exact(by repeat' (first|exact trivial|refine⟨⟨rfl,rfl⟩,?_⟩))),?_⟩
 conv=>whnf
 have ow:o.w=w:=by rw[<- ho]
 have oz:o.zone=c:=by rw[<- ho]
 have op:o.puts=[]:=by rw[<- ho]
 have os:o.stages=[]:=by rw[<- ho]
 have og:o.got=[]:=by rw[<- ho]
 clear ho;rw[<- ow]at hv hn hnh hk;rw[<- oz]at hz;clear hC hN;unfold iW at hk;by_cases k1:x.kind=1
 . rw[show(x.kind==1)=true by simp[k1]];rw[if_pos k1,aH]at hk;obtain⟨hl,hl0,hh⟩:=mV hk.2;have hr1:r=nV o x:=by rw[hr];unfold tc;rw[if_pos k1]
   have hM:=lift (cx' :=gE) (Oj o x hv (by omega) hz op (by rw[os];simp) og (by omega) hl0 hh) rfl rfl;rw[<- hr1]at hM
   conv=>whnf
   cases r with
   |none =>
    refine⟨[5,100008,100009],_,hM,⟨rfl,rfl,rfl⟩,?_⟩;exact⟨rfl,rfl,rfl,⟨_,rfl⟩,⟨_,rfl⟩⟩
   |some o2 =>
    refine⟨[5,100008,100009],_,hM,⟨rfl,rfl,rfl⟩,?_⟩
    conv=>whnf
    refine aA ?_
    conv=>whnf
    exact⟨o2,rfl,ah.keep⟩
 rw[show(x.kind==1)=false by simp[k1]];rw[if_neg k1]at hk
 conv=>whnf
 by_cases k2:x.kind=2
 . rw[show(x.kind==2)=true by simp[k2]];have hr1:r=nU o x:=by rw[hr];unfold tc;rw[if_neg k1,if_pos k2]
   have hM:=lift (cx' :=gE) (Ob o x hv (by omega) hz op (by rw[os];simp) og) rfl rfl;rw[<- hr1]at hM
   conv=>whnf
   cases r with
   |none =>
    refine⟨[5,100008,100009],_,hM,⟨rfl,rfl,rfl⟩,?_⟩;exact⟨rfl,rfl,rfl,⟨_,rfl⟩,⟨_,rfl⟩⟩
   |some o2 =>
    refine⟨[5,100008,100009],_,hM,⟨rfl,rfl,rfl⟩,?_⟩
    conv=>whnf
    refine aA ?_
    conv=>whnf
    exact⟨o2,rfl,ah.keep⟩
 rw[show(x.kind==2)=false by simp[k2]];rw[if_neg k2]at hk
 conv=>whnf
 by_cases k3:x.kind=3
 . rw[show(x.kind==3)=true by simp[k3]];rw[if_pos k3,aH]at hk;obtain⟨host,hho,hhw⟩:∃host,x.hosts=[host]/\bk o.w host=true:=by
    have h1:=hk.2;unfold qe at h1;split at h1
    . rename_i n e;exact⟨n,e,h1⟩
    . cases h1
   have hr1:r=oT o x host:=by rw[hr];unfold tc;rw[if_neg k1,if_neg k2,if_pos k3];unfold yE;rw[hho]
   have hM:=lift (cx' :=gE) (MN o x host hho hhw hv hn hnh op (by rw[os];simp) og hz) rfl rfl;rw[<- hr1]at hM
   conv=>whnf
   cases r with
   |none =>
    refine⟨[5,100008,100009],_,hM,⟨rfl,rfl,rfl⟩,?_⟩;exact⟨rfl,rfl,rfl,⟨_,rfl⟩,⟨_,rfl⟩⟩
   |some o2 =>
    refine⟨[5,100008,100009],_,hM,⟨rfl,rfl,rfl⟩,?_⟩
    conv=>whnf
    refine aA ?_
    conv=>whnf
    exact⟨o2,rfl,ah.keep⟩
 rw[show(x.kind==3)=false by simp[k3]];rw[if_neg k3]at hk
 conv=>whnf
 by_cases k4:x.kind=4
 . rw[show(x.kind==4)=true by simp[k4]];rw[if_pos k4,aH,aH]at hk;obtain⟨hl,hl0,hh⟩:=mV hk.1.2;have hr1:r=nj o x:=by rw[hr];unfold tc;rw[if_neg k1,if_neg k2,if_neg k3,if_pos k4]
   have hM:=lift (cx' :=gE) (Ml o x (by omega) (by omega) hl0 hh op (by rw[os];simp) og hz) rfl rfl;rw[<- hr1]at hM
   conv=>whnf
   cases r with
   |none =>
    refine⟨[5,100008,100009],_,hM,⟨rfl,rfl,rfl⟩,?_⟩;exact⟨rfl,rfl,rfl,⟨_,rfl⟩,⟨_,rfl⟩⟩
   |some o2 =>
    refine⟨[5,100008,100009],_,hM,⟨rfl,rfl,rfl⟩,?_⟩
    conv=>whnf
    refine aA ?_
    conv=>whnf
    exact⟨o2,rfl,ah.keep⟩
 rw[if_neg k4]at hk;cases hk
end Go.Proofs.YtodofogcincleaaGreatDoor
namespace NP
open NQ Go
theorem DC(z:aB)(s:Bs)(k:Int):kB z s k=match z.sets.findIdx? (is ⟨s,k⟩)with|some i=>z.sets[i]? |none=>none:=by
 unfold kB;rw[<- kL];rfl
def cL(l:List ai)(p:ai):List ai:=(l.filter λq=>(q.host != p.host)||(q.zone.apex != p.zone.apex))++(if p.zone.sets=[]then[]else[p])
def iw(w:aL)(s:List ai):aL:=⟨w.hosts,s.foldl cL w.zones,w.anchor,w.hints⟩
theorem Ie(l:List ai)(p:ai):(cL l p).length<=l.length+1:=by
 unfold cL;rw[List.length_append];have:=List.length_filter_le (λq:ai=>(q.host != p.host)||(q.zone.apex != p.zone.apex)) l;split <;> simp <;> omega
theorem tU:∀(s:List ai) (l:List ai),(s.foldl cL l).length<=l.length+s.length
 |[],l=>by simp
 |p::t,l=>by
  have h1:=tU t (cL l p);have h2:=Ie l p;simp only[List.foldl_cons,List.length_cons];omega
end NP
namespace Go.Proofs.YtodofogcincleaaGreatDoor
open NQ Go NP Go.RowKit
theorem NB(z:aB)(s:Bs)(k:Int)(hn:z.sets.length<=100000):NQ.Fn cx 13 [.agg (aG z),.str s,.int .i64 k] (.tuple [.agg ((bJ (wfR z s k).1).map .d),.d (.bool (wfR z s k).2)]) []:=by
 refine aM aV mixed Tryz.func13 (by kernel_rfl) rfl (ag rfl) ?_;conv=>whnf
 have fA:=Pt z ⟨s,k⟩ hn;unfold atI at fA;have hw:wfR z s k=match z.sets.findIdx? (is ⟨s,k⟩)with|some i=>(match z.sets[i]? with|some x=>(x.set,true)|none=>(oE,false))|none=>(oE,false):=by
  unfold wfR;rw[DC];cases z.sets.findIdx? (is ⟨s,k⟩) <;> rfl
 rw[hw];cases hi:z.sets.findIdx? (is ⟨s,k⟩)with
 |none =>
  rw[hi]at fA
  (refine⟨_,_,fA,?_⟩;conv=>whnf)
  exact al rfl rfl
 |some i =>
  rw[hi]at fA;obtain⟨hlt,_,_⟩:=List.findIdx?_eq_some_iff_getElem.1 hi
  (refine⟨_,_,fA,?_⟩;conv=>whnf)
  rw[show decide ((i:Int)<0)=false by simp]
  conv=>whnf
  refine⟨aw i,ak z.sets[i],aD (aj hlt),?_⟩
  conv=>whnf
  refine al rfl ?_;dsimp only;rw[aj hlt];rfl
set_option maxHeartbeats 2000000 in
theorem Kw(w:aL)(s:List ai)(hn:w.zones.length+s.length<=100000):NQ.Fn cx 34 [.agg (bn w),.agg (bV s)] (.agg ((bn (iw w s)).map .d)) []:=by
 refine fC (fun|13=>[57]|_=>[]) aV mixed Tryz.func34 (by kernel_rfl) rfl (ag rfl) ?_
 conv=>whnf
 refine⟨Nat×aL,λq=>⟨[(2,.ptr 2 0),(3,.ptr 3 0),(4,.ptr 4 0),(5,.d (.int .i64 q.1))],[(2,.box ((bn q.2).map .d)),(3,.box [.d (.slice 3 (s.map aC))]),(4,.box [.nil 3,.nil 3,.d (.str []),.d (.int .i64 0),.d (.int .i64 0),.nil 3,.nil 1])]⟩,λq=>q.1<=s.length/\q.2=iw w (s.take q.1),λq=>s.length-q.1,
  ⟨(0,w),⟨Nat.zero_le _,rfl⟩,aF.keep⟩,?_⟩
 rintro⟨k,wk⟩ ⟨hk,hwk⟩;dsimp only at hk hwk;have hz:wk.zones.length<=w.zones.length+k:=by
  have:=tU (s.take k) w.zones;rw[List.length_take]at this;rw[hwk];show((s.take k).foldl cL w.zones).length<=_
  omega
 conv=>whnf
 refine af (λh1=>?_) (λh1=>?_) <;> (rw[h1];conv=>whnf)
 . have hlt:k<s.length:=by simp at h1;omega
   obtain⟨p,hp⟩:∃p,s[k]? =some p:=⟨_,aj hlt⟩
   refine⟨aw k,aC p,aD hp,?_⟩
   conv=>whnf
   refine⟨Nat,λj=>⟨[(2,.ptr 2 0),(3,.ptr 3 0),(4,.ptr 4 0),(5,.d (.int .i64 k)),(6,.ptr 6 0),(7,.own 57),(8,.d (.int .i64 j))],[(57,.row 45 3 (((wk.zones.take j).filter λq=>(q.host != p.host)||(q.zone.apex != p.zone.apex)).map aC)),(2,.box ((bn wk).map .d)),(3,.box [.d (.slice 3 (s.map aC))]),(4,.box [.nil 3,.nil 3,.d (.str []),.d (.int .i64 0),.d (.int .i64 0),.nil 3,.nil 1]),(6,.box ((aC p).map .d))]⟩,λj=>j<=wk.zones.length,λj=>wk.zones.length-j,
    ⟨0,Nat.zero_le _,(aF.kj 7 57 3 45 3 rfl rfl (by decide)).trans (aF.keep)⟩,?_⟩
   intro j hj
   conv=>whnf
   refine af (λh2=>?_) (λh2=>?_) <;> (rw[h2];conv=>whnf)
   . have hjl:j<wk.zones.length:=by simp at h2;omega
     obtain⟨q,hq⟩:∃q,wk.zones[j]? =some q:=⟨_,aj hjl⟩
     have hfl:=List.length_filter_le (λq:ai=>(q.host != p.host)||(q.zone.apex != p.zone.apex)) (wk.zones.take j);rw[List.length_take]at hfl;have hnext:(wk.zones.take (j+1)).filter (λq=>(q.host != p.host)||(q.zone.apex != p.zone.apex))=(wk.zones.take j).filter (λq=>(q.host != p.host)||(q.zone.apex != p.zone.apex))++if ((q.host != p.host)||(q.zone.apex != p.zone.apex))=true then[q]else[]:=by
      rw[bU hq,List.filter_append,List.filter_cons,List.filter_nil]
     (refine⟨(by kernel_rfl:bC _ _=true),?_⟩;conv=>whnf)
     refine⟨aw j,aC q,aD hq,?_⟩
     conv=>whnf
     repeat' (first
      |(refine⟨aw j,aC q,aD hq,?_⟩;conv=>whnf)
      |(refine af (λh=>?_) (λh=>?_) <;> (rw[h];conv=>whnf))|fail)
     iterate 2
      . have hc:((q.host != p.host)||(q.zone.apex != p.zone.apex))=true:=by simp_all
        rw[if_pos hc]at hnext;have hrows:((wk.zones.take (j+1)).filter (λq=>(q.host != p.host)||(q.zone.apex != p.zone.apex))).map aC=((wk.zones.take j).filter (λq=>(q.host != p.host)||(q.zone.apex != p.zone.apex))).map aC++[aC q]:=by rw[hnext,List.map_append];rfl
        refine⟨by simp;omega,by simp;omega,?_⟩
        conv=>whnf
        refine⟨j+1,hjl,by(show wk.zones.length-(j+1)<wk.zones.length-j;omega),aF.keep ⟨ae,ae,ae,ae,ae,ae,⟨an (k:=j) (by omega),rfl⟩,trivial⟩ ⟨⟨by rw[hrows];rfl,rfl⟩,(by repeat' (first|exact trivial|refine⟨ae,?_⟩))⟩⟩
     . have hc:¬((q.host != p.host)||(q.zone.apex != p.zone.apex))=true:=by simp_all
       rw[if_neg hc,List.append_nil]at hnext;refine⟨j+1,hjl,by(show wk.zones.length-(j+1)<wk.zones.length-j;omega),aF.keep ⟨ae,ae,ae,ae,ae,ae,⟨an (k:=j) (by omega),rfl⟩,trivial⟩ ⟨⟨by rw[hnext];rfl,rfl⟩,(by repeat' (first|exact trivial|refine⟨ae,?_⟩))⟩⟩
   . obtain rfl:j=wk.zones.length:=by simp at h2;omega
     have hfl:=List.length_filter_le (λq:ai=>(q.host != p.host)||(q.zone.apex != p.zone.apex)) wk.zones;have hstep:iw w (s.take (k+1))=⟨wk.hosts,cL wk.zones p,wk.anchor,wk.hints⟩:=by
      rw[hwk];unfold iw;rw[bU hp,List.foldl_append];rfl
     refine af (λh3=>?_) (λh3=>?_) <;> (rw[h3];conv=>whnf)
     . have hne:p.zone.sets≠[]:=by intro e;simp[e]at h3
       have hP:(cL wk.zones p).map aC=((wk.zones.take wk.zones.length).filter (λq=>(q.host != p.host)||(q.zone.apex != p.zone.apex))).map aC++[aC p]:=by
        rw[List.take_length];unfold cL;rw[if_neg hne,List.map_append];rfl
       refine⟨by simp;omega,by simp;omega,?_⟩
       conv=>whnf
       refine⟨(k+1,_),⟨hlt,hstep.symm⟩,by(show s.length-(k+1)<s.length-k;omega),aF.keep ⟨ae,ae,ae,⟨an (k:=k) (by omega),rfl⟩,trivial⟩ ⟨⟨?_,rfl⟩,(by repeat' (first|exact trivial|refine⟨ae,?_⟩))⟩⟩;show _=some (Blk.box [.d (.slice 3 (wk.hosts.map eN)),.d (.slice 3 ((cL wk.zones p).map aC)),.d (.str wk.anchor.name),.d (.int .i64 wk.anchor.type),.d (.int .i64 wk.anchor.life),.d (.slice 3 (wk.anchor.data.map aI)),.d (.slice 1 (wk.hints.map jB))])
       rw[hP];rfl
     . have hne:p.zone.sets=[]:=by
        cases e:p.zone.sets with
        |nil=>rfl
        |cons a t=>rw[e]at h3;simp at h3
       have hP:(cL wk.zones p).map aC=((wk.zones.take wk.zones.length).filter (λq=>(q.host != p.host)||(q.zone.apex != p.zone.apex))).map aC:=by
        rw[List.take_length];unfold cL;rw[if_pos hne,List.append_nil]
       refine⟨(k+1,_),⟨hlt,hstep.symm⟩,by(show s.length-(k+1)<s.length-k;omega),aF.keep ⟨ae,ae,ae,⟨an (k:=k) (by omega),rfl⟩,trivial⟩ ⟨⟨?_,rfl⟩,(by repeat' (first|exact trivial|refine⟨ae,?_⟩))⟩⟩;show _=some (Blk.box [.d (.slice 3 (wk.hosts.map eN)),.d (.slice 3 ((cL wk.zones p).map aC)),.d (.str wk.anchor.name),.d (.int .i64 wk.anchor.type),.d (.int .i64 wk.anchor.life),.d (.slice 3 (wk.anchor.data.map aI)),.d (.slice 1 (wk.hints.map jB))])
       rw[hP];rfl
 . obtain rfl:k=s.length:=by simp at h1;omega
   rw[List.take_length]at hwk;subst hwk;exact al rfl rfl
theorem dS(z:aB)(s:Bs)(k l:Int)(d:List Datum):(bo z s k l d).apex=z.apex:=rfl
theorem rD{since till:Int}{y z:aB}(h:cG since till y=some z):(wfR y y.apex 4).2=true/\(ik (gh (wfR y y.apex 4).1).n).2=0/\(wfR (eD y) (eD y).apex 7).2=true/\(cE (wfR (eD y) (eD y).apex 7).1).2=0/\aR (eD y)=true/\(eo (eD y)).2=0 /\
 (ib (eo (eD y)).1 (cE (wfR (eD y) (eD y).apex 7).1).1 since till).2=0/\aR z=true/\z=(ib (eo (eD y)).1 (cE (wfR (eD y) (eD y).apex 7).1).1 since till).1:=by
 unfold cG at h;split at h
 case isFalse=>cases h
 rename_i h1;split at h
 . cases h
 rename_i h2;unfold kV at h;split at h
 case isFalse=>cases h
 rename_i h3;split at h
 . cases h
 rename_i h4;split at h
 . cases h
 rename_i h5;split at h
 . cases h
 rename_i h6;cases h;simp only[Bool.or_eq_true,bne_iff_ne,ne_eq,Bool.not_eq_true',not_or,Decidable.not_not,Bool.not_eq_false]at h2 h4 h5 h6;exact⟨h1,h2,h3,h4.1,h4.2,h5,h6.1,h6.2,rfl⟩
theorem eh{since till:Int}{y z:aB}(h:cG since till y=some z):z.apex=y.apex:=by
 obtain⟨_,_,_,_,h5,h6,h7,_,rfl⟩:=rD h;have hc:(eo (eD y)).1.apex=y.apex:=by
  unfold eo at h6 ⊢;split at h6
  . cases h6
  . rename_i g1;rw[if_neg g1];split at h6
    . rename_i g2;exact absurd h6 (by simpa using g2)
    . rename_i g2;rw[if_neg g2];split at h6
      . cases h6
      . rename_i g3;rw[if_neg g3];rfl
 unfold ib at h7 ⊢;split at h7
 . cases h7
 . rename_i g1;rw[if_neg g1];split at h7
   . cases h7
   . rename_i g2;rw[if_neg g2];split at h7
     . cases h7
     . rename_i g3;rw[if_neg g3];exact hc
structure fg(P:ai->Prop)(n:Nat)(o:aX):Prop where
 num:o.stages.length<=n
 st:∀s∈o.stages,s≠[]/\s.length<=2000/\ ∀p∈s,P p
theorem fg.fin{P:ai->Prop}{n:Nat}{o:aX}(h:fg P n o)(hl:o.puts.length<=2000)(hp:∀p∈o.puts,P p){o' :aX}(e:o'.stages=o.stages++(if o.puts=[]then[]else[o.puts])):fg P (n+1) o' :=by
 refine⟨?_,λs hs=>?_⟩
 . rw[e,List.length_append];have:=h.num;split <;> simp <;> omega
 . rw[e]at hs;rcases List.mem_append.1 hs with hs|hs
   . exact h.st s hs
   . split at hs
     . cases hs
     . rename_i hne;rw[List.mem_singleton.1 hs];exact⟨hne,hl,hp⟩
theorem fg.more{P:ai->Prop}{n m:Nat}{o:aX}(h:fg P n o)(hnm:n<=m):fg P m o:=⟨Nat.le_trans h.num hnm,h.st⟩
theorem fg.mono{P Q:ai->Prop}{n:Nat}{o:aX}(h:fg P n o)(hq:∀p,P p->Q p):fg Q n o:=⟨h.num,λs hs=>⟨(h.st s hs).1,(h.st s hs).2.1,λp hp=>hq p ((h.st s hs).2.2 p hp)⟩⟩
def kz(w:aL)(m:Nat)(g:List (Bs×List Int)):Prop:= ∀a,(bu g a).length<=m/\ ∀n∈bu g a,bk w n=true
theorem GX(a b:Bs)(l:List Int):∀g:List (Bs×List Int),bu (bS b l g) a=if a=b then l else bu g a
 |[]=>by
  unfold bu bS bf;by_cases h:a=b
  . rw[if_pos h,if_pos h];rfl
  . rw[if_neg h,if_neg h];rfl
 |(k,v)::t=>by
  have ih:=GX a b l t;unfold bS;by_cases hb:b=k
  . subst hb;rw[if_pos rfl];unfold bu bf;by_cases h:a=b
    . rw[if_pos h,if_pos h];rfl
    . rw[if_neg h,if_neg h,if_neg h]
  . rw[if_neg hb];unfold bu at ih ⊢;unfold bf;by_cases h:a=k
    . subst h;rw[if_pos rfl,if_neg (λe=>hb e.symm),if_pos rfl]
    . rw[if_neg h,if_neg h];exact ih
theorem vJ{w:aL}:∀(l:List ai) {g:List (Bs×List Int)} {m:Nat},kz w m g->(∀p∈l,bk w p.host=true)->kz w (m+l.length) (cV w g l)
 |[],g,m,h,_=>h
 |p::t,g,m,h,hp=>by
  show kz w (m+(t.length+1)) (cV w (jz w g p) t)
  rw[show m+(t.length+1)=(m+1)+t.length by omega];refine vJ t (λa=>?_) λq hq=>hp q (aZ _ hq)
  unfold jz;split
  . rw[GX];split
    . rename_i e;have h1:=h p.zone.apex;refine⟨by simp;omega,λn hn=>?_⟩;rcases List.mem_append.1 hn with hn|hn
      . exact h1.2 n hn
      . rw[List.mem_singleton.1 hn];exact hp p (List.mem_cons_self ..)
    . exact⟨by have:=(h a).1;omega,(h a).2⟩
  . exact⟨by have:=(h a).1;omega,(h a).2⟩
theorem vK(w:aL):kz w 0 []:=λa=>⟨Nat.le_refl _,λn hn=>by cases hn⟩
theorem zH{o:aX}{z:aB}{m:Nat}(hw:∀p∈o.w.zones,bk o.w p.host=true)(hg:kz o.w m o.got):(cA z o.w.zones++cS z (bu o.got z.apex)).length<=o.w.zones.length+m/\ ∀p∈cA z o.w.zones++cS z (bu o.got z.apex),p.zone=z/\bk o.w p.host=true:=by
 refine⟨?_,λp hp=>?_⟩
 . have h1:=List.length_filter_le (λp:ai=>p.zone.apex==z.apex) o.w.zones;have h2:=(hg z.apex).1;unfold cA cS;rw[List.length_append,ao,ao];omega
 . rcases List.mem_append.1 hp with hp|hp
   . unfold cA at hp;obtain⟨q,hq,rfl⟩:=List.mem_map.1 hp;exact⟨rfl,hw q (List.mem_filter.1 hq).1⟩
   . unfold cS at hp;obtain⟨n,hn,rfl⟩:=List.mem_map.1 hp;exact⟨rfl,(hg z.apex).2 n hn⟩
def rh(w:aL)(A:List Bs)(p:ai):Prop:=bk w p.host=true/\p.zone.apex∈A
theorem Oi{o o2:aX}{x:aY}(h:nV o x=some o2)(hw:∀p∈o.w.zones,bk o.w p.host=true)(hn:o.w.zones.length<=20)(hz:o.zone.apex=x.zone)(hh:∀n∈x.hosts,bk o.w n=true)(hl:x.hosts.length<=8)(hs:o.stages=[])(hg:o.got=[]) :
 fg (rh o.w [x.zone,(cB o.w.zones x.zone).1.apex]) 3 o2:=by
 unfold nV at h;split at h
 case isFalse=>cases h
 generalize cB o.w.zones x.zone=ab at h
 unfold pY at h;split at h
 . cases h
 rename_i z1 hz1;split at h
 . cases h
 rename_i z2 hz2;cases h;have a1:z1.apex=x.zone:=by rw[eh hz1];unfold kf;rw[dK,dS];exact hz
 have a2:z2.apex=ab.1.apex:=by rw[eh hz2];unfold kf;rw[dK,dS]
 have hgl:=GW o x x.hosts;have g0:∀p∈cJ o x x.hosts,rh o.w [x.zone,ab.1.apex] p:=λp hp=>by
  unfold cJ at hp;obtain⟨n,hn,rfl⟩:=List.mem_map.1 hp;exact⟨hh n (List.mem_filter.1 hn).1,by rw[show(⟨n,o.zone⟩:ai).zone.apex=o.zone.apex from rfl,hz];exact List.mem_cons_self ..⟩
 have s0:fg (rh o.w [x.zone,ab.1.apex]) 0 {o with puts:=cJ o x x.hosts}:=⟨by rw[show({o with puts:=cJ o x x.hosts}:aX).stages=o.stages from rfl,hs];exact Nat.le_refl _,λs hs' =>by rw[show({o with puts:=cJ o x x.hosts}:aX).stages=o.stages from rfl,hs]at hs';cases hs'⟩
 have s1:=s0.fin (o' :=cH {o with puts:=cJ o x x.hosts}) (by(show(cJ o x x.hosts).length<=2000);omega) g0 rfl;have gk:kz o.w (0+(cJ o x x.hosts).length) (cH {o with puts:=cJ o x x.hosts}).got:=by
  show kz o.w _ (cV o.w o.got (cJ o x x.hosts))
  rw[hg];exact vJ _ (vK _) λp hp=>(g0 p hp).1
 obtain⟨l1,p1⟩:=zH (o:=cH {o with puts:=cJ o x x.hosts}) (z:=z1) hw gk;obtain⟨l2,p2⟩:=zH (o:=aJ (cH {o with puts:=cJ o x x.hosts}) z1) (z:=z2) hw gk;have ew:(cH {o with puts:=cJ o x x.hosts}).w=o.w:=rfl;have ew2:(aJ (cH {o with puts:=cJ o x x.hosts}) z1).w=o.w:=rfl;rw[ew]at l1 p1;rw[ew2]at l2 p2;have ep:(aJ (aJ (cH {o with puts:=cJ o x x.hosts}) z1) z2).puts=(cA z1 o.w.zones++cS z1 (bu (cH {o with puts:=cJ o x x.hosts}).got z1.apex))++(cA z2 o.w.zones++cS z2 (bu (aJ (cH {o with puts:=cJ o x x.hosts}) z1).got z2.apex)):=by
  show(([]++cA z1 _++cS z1 _)++cA z2 _++cS z2 _)=_
  simp[List.append_assoc];rfl
 have s2:=fg.fin (o:=aJ (aJ (cH {o with puts:=cJ o x x.hosts}) z1) z2) (o' :=bY (aJ (aJ (cH {o with puts:=cJ o x x.hosts}) z1) z2)) ⟨s1.num,s1.st⟩ (by rw[ep,List.length_append];omega) (λp hp=>by
  rw[ep]at hp;rcases List.mem_append.1 hp with hp|hp
  . obtain⟨e1,e2⟩:=p1 p hp;exact⟨e2,by rw[e1,a1];exact List.mem_cons_self ..⟩
  . obtain⟨e1,e2⟩:=p2 p hp;exact⟨e2,by rw[e1,a2];simp⟩) rfl
 have hst:=EP x o.w.zones;refine fg.fin (o:={bY (aJ (aJ (cH {o with puts:=cJ o x x.hosts}) z1) z2)with puts:=eE x o.w.zones}) (n:=2) ⟨s2.num,s2.st⟩ (by(show(eE x o.w.zones).length<=2000);omega) (λp hp=>?_) rfl;have hp:p∈eE x o.w.zones:=hp;unfold eE at hp;obtain⟨q,hq,rfl⟩:=List.mem_map.1 hp;exact⟨hw q (List.mem_filter.1 hq).1,List.mem_cons_self ..⟩
theorem pd{o:aX}{z:aB}{P:ai->Prop}{n m:Nat}(h:fg P n o)(hp0:o.puts=[])(hw:∀p∈o.w.zones,bk o.w p.host=true)(hg:kz o.w m o.got)(hm:o.w.zones.length+m<=2000)(hP:∀p:ai,p.zone=z->bk o.w p.host=true->P p):fg P (n+1) (bY (aJ o z)):=by
 obtain⟨l1,p1⟩:=zH (o:=o) (z:=z) hw hg;have ep:(aJ o z).puts=cA z o.w.zones++cS z (bu o.got z.apex):=by
  show o.puts++cA z _++cS z _=_
  rw[hp0,List.nil_append]
 refine fg.fin (o:=aJ o z) (o' :=bY (aJ o z)) ⟨h.num,h.st⟩ (by rw[ep];omega) (λp hp=>?_) rfl;rw[ep]at hp;exact hP p (p1 p hp).1 (p1 p hp).2
theorem AO{P:ai->Prop}{o:aX}(h:o.stages=[]):fg P 0 o:=⟨by rw[h];exact Nat.le_refl _,λs hs=>by rw[h]at hs;cases hs⟩
theorem Oa{o o2:aX}{x:aY}(h:nU o x=some o2)(hw:∀p∈o.w.zones,bk o.w p.host=true)(hn:o.w.zones.length<=20)(hz:o.zone.apex=x.zone)(hs:o.stages=[])(hp0:o.puts=[])(hg:o.got=[]) :
 fg (rh o.w [x.zone,(cB o.w.zones x.zone).1.apex]) 3 o2:=by
 unfold nU at h;split at h
 case isFalse=>cases h
 generalize cB o.w.zones x.zone=ab at h
 unfold yI at h;split at h
 case isFalse=>cases h
 split at h
 . cases h
 rename_i z hz1;unfold ov at h;split at h
 case isFalse=>cases h
 split at h
 . cases h
 rename_i z2 hz2;unfold uP at h;split at h
 . cases h
 rename_i z3 hz3;cases h;have a1:z.apex=x.zone:=by rw[eh hz1,dS];exact hz
 have a2:z2.apex=ab.1.apex:=by rw[eh hz2,dS]
 have a3:z3.apex=x.zone:=by rw[eh hz3,dS];exact a1
 have g:kz o.w 0 o.got:=by rw[hg];exact vK _
 have s1:=pd (z:=z) (AO (P:=rh o.w [x.zone,ab.1.apex]) hs) hp0 hw g (by omega) λp e1 e2=>⟨e2,by rw[e1,a1];exact List.mem_cons_self ..⟩
 have s2:=pd (z:=z2) s1 rfl hw g (by(show o.w.zones.length+0<=2000);omega) λp e1 e2=>⟨e2,by rw[e1,a2];simp⟩
 exact pd (z:=z3) s2 rfl hw g (by(show o.w.zones.length+0<=2000);omega) λp e1 e2=>⟨e2,by rw[e1,a3];exact List.mem_cons_self ..⟩
theorem Mk{o o2:aX}{x:aY}(h:nj o x=some o2)(hw:∀p∈o.w.zones,bk o.w p.host=true)(hn:o.w.zones.length<=20)(hz:o.zone.apex=x.zone)(hh:∀n∈x.hosts,bk o.w n=true)(hl:x.hosts.length<=8)(hs:o.stages=[])(hp0:o.puts=[])(hg:o.got=[]) :
 fg (rh o.w [x.zone,x.name]) 2 o2:=by
 unfold nj at h;split at h
 case isFalse=>cases h
 split at h
 . cases h
 rename_i part hpt;unfold nK nL at h;split at h
 . cases h
 rename_i z hz1;cases h;have a0:part.apex=x.name:=by
  rw[eh hpt];unfold nW;rw[dK];rfl
 have a1:z.apex=x.zone:=by
  rw[eh hz1];unfold sq;rw[dK];exact hz
 have g0:∀p∈cF part x.hosts,rh o.w [x.zone,x.name] p:=λp hp=>by
  unfold cF at hp;obtain⟨n,hn,rfl⟩:=List.mem_map.1 hp;exact⟨hh n hn,by rw[show(⟨n,part⟩:ai).zone.apex=part.apex from rfl,a0];simp⟩
 have hpl:(cF part x.hosts).length=x.hosts.length:=by unfold cF;rw[ao]
 have s1:=fg.fin (o:={o with puts:=cF part x.hosts}) (o' :=cH {o with puts:=cF part x.hosts}) (AO (P:=rh o.w [x.zone,x.name]) hs) (by(show(cF part x.hosts).length<=2000);omega) g0 rfl;have gk:kz o.w (0+(cF part x.hosts).length) (cH {o with puts:=cF part x.hosts}).got:=by
  show kz o.w _ (cV o.w o.got (cF part x.hosts))
  rw[hg];exact vJ _ (vK _) λp hp=>(g0 p hp).1
 exact pd (o:=cH {o with puts:=cF part x.hosts}) (z:=z) s1 rfl hw gk (by(show o.w.zones.length+_<=2000);omega) λp e1 e2=>⟨e2,by rw[e1,a1];exact List.mem_cons_self ..⟩
theorem xi{o:aX}{x:aY}{ad:Datum}{m:Nat}(hw:∀p∈o.w.zones,bk o.w p.host=true)(hg:kz o.w m o.got):∀(l:List Bs) {ps qs:List ai},iV o x ad l ps=some qs->(∀p∈ps,bk o.w p.host=true)->qs.length<=ps.length+l.length*(o.w.zones.length+m)/\ ∀p∈qs,bk o.w p.host=true
 |[],ps,qs,h,hp=>by
  unfold iV at h;cases h;exact⟨by simp,hp⟩
 |a::t,ps,qs,h,hp=>by
  unfold iV at h;split at h
  . split at h
    . cases h
    . rename_i z hz;obtain⟨l1,p1⟩:=zH (o:=o) (z:=z) hw hg;have:=xi hw hg t h (λp hp' =>by
       simp only[List.append_assoc]at hp';rcases List.mem_append.1 hp' with hp' |hp'
       . exact hp p hp'
       . exact(p1 p hp').2)
      refine⟨?_,this.2⟩;have h1:=this.1;simp only[List.length_append,List.length_cons,Nat.add_mul]at h1 l1 ⊢;omega
  . have:=xi hw hg t h hp;refine⟨?_,this.2⟩;have h1:=this.1;simp only[List.length_cons,Nat.add_mul];omega
theorem MM{o o2:aX}{x:aY}{host:Int}(h:oT o x host=some o2)(hw:∀p∈o.w.zones,bk o.w p.host=true)(hn:o.w.zones.length<=20)(hh:bk o.w host=true)(hs:o.stages=[])(hp0:o.puts=[])(hg:o.got=[]) :
 fg (λp=>bk o.w p.host=true) 3 o2:=by
 unfold oT at h;split at h
 case isFalse=>cases h
 unfold xZ at h;generalize hgl:dJ o host (cT (λp=>(nf (wfR o.zone x.name 1).1.data host 0 o.w.hosts).contains p.host) o.w.zones)=gl at h;generalize nf (wfR o.zone x.name 1).1.data host 0 o.w.hosts=om at h hgl;have hgll:gl.length<=20:=by
  rw[<- hgl];have:=DO o host (cT (λp=>om.contains p.host) o.w.zones);have:=nw (λp=>om.contains p.host) o.w.zones;omega
 have g0:∀p∈gl,bk o.w p.host=true:=λp hp=>by
  rw[<- hgl]at hp;unfold dJ at hp;obtain⟨n,hn,rfl⟩:=List.mem_map.1 hp;exact hh
 unfold rP at h;split at h
 . cases h
 rename_i ps hps;cases h;have s1:=fg.fin (o:={o with puts:=gl}) (o' :=cH {o with puts:=gl}) (AO (P:=λp=>bk o.w p.host=true) hs) (by(show gl.length<=2000);omega) g0 rfl;have gk:kz o.w (0+gl.length) (cH {o with puts:=gl}).got:=by
  show kz o.w _ (cV o.w o.got gl)
  rw[hg];exact vJ _ (vK _) g0
 have hpl:=xi (o:=cH {o with puts:=gl}) hw gk _ hps (λp hp=>by cases hp);have hal:=nw (λ_=>true) o.w.zones;have hlen:ps.length<=2000:=by
  have h1:=hpl.1;have h2:(cT (λ_=>true) (cH {o with puts:=gl}).w.zones).length*((cH {o with puts:=gl}).w.zones.length+(0+gl.length))<=20*40:=Nat.mul_le_mul (by(show(cT (λ_=>true) o.w.zones).length<=20);omega) (by(show o.w.zones.length+(0+gl.length)<=40);omega);simp only[List.length_nil]at h1;omega
 have s2:=fg.fin (o:={cH {o with puts:=gl}with puts:=ps}) (o' :=bY {cH {o with puts:=gl}with puts:=ps}) ⟨s1.num,s1.st⟩ hlen hpl.2 rfl;have hst:=BK om o.w.zones;refine fg.fin (o:={bY {cH {o with puts:=gl}with puts:=ps}with puts:=eX om o.w.zones}) ⟨s2.num,s2.st⟩ (by(show(eX om o.w.zones).length<=2000);omega) (λp hp=>?_) rfl;have hp:p∈eX om o.w.zones:=hp;unfold eX at hp;obtain⟨q,hq,rfl⟩:=List.mem_map.1 hp;exact hw q (List.mem_filter.1 hq).1
theorem NS{w:aL}{n:Int}(h1:0<=n)(h2:n<(w.hosts.length:Int)):bk w n=true:=by
 unfold bk;simp[h1,h2]
theorem Hu{w:aL}{x:aY}{since till:Int}{o:aX}(h:mu w x since till=some o)(hvw:eB w=true)(hx:eQ w x=true)(hn:w.zones.length<=20) :
 fg (λp=>bk w p.host=true) 3 o/\(x.kind=1\/x.kind=2->fg (rh w [x.zone,(cB w.zones x.zone).1.apex]) 3 o)/\(x.kind=4->fg (rh w [x.zone,x.name]) 3 o)/\(x.kind=1\/x.kind=2->(cB w.zones x.zone).2=true)/\(x.kind=1\/x.kind=2\/x.kind=3\/x.kind=4):=by
 have hw:∀p∈w.zones,bk w p.host=true:=λp hp=>by
  obtain⟨_,h1,h2⟩:=gY hvw p hp;exact NS h1 h2
 unfold eQ at hx;simp only[aH,Bool.not_eq_true',Bool.or_eq_false_iff,Bool.not_eq_false']at hx;obtain⟨_,hc,hk⟩:=hx;have hza:(bz w.zones x.zone).1.apex=x.zone:=by
  rcases eF w.zones x.zone with ⟨p,hp,e,ea⟩|⟨e,_⟩
  . rw[e];exact ea
  . rw[e]at hc;cases hc
 unfold mu at h;split at h
 case isFalse=>cases h
 unfold tc at h;unfold iW at hk;by_cases k1:x.kind=1
 . rw[if_pos k1]at h;rw[if_pos k1,aH]at hk;obtain⟨hl,hl0,hh⟩:=mV hk.2;have hab:(cB w.zones x.zone).2=true:=by
    unfold nV at h;split at h
    . assumption
    . cases h
   have:=Oi h hw hn hza hh hl rfl rfl;exact⟨this.mono λp hp=>hp.1,λ_=>this,λe=>by omega,λ_=>hab,.inl k1⟩
 rw[if_neg k1]at h hk;by_cases k2:x.kind=2
 . rw[if_pos k2]at h;have hab:(cB w.zones x.zone).2=true:=by
    unfold nU at h;split at h
    . assumption
    . cases h
   have:=Oa h hw hn hza rfl rfl rfl;exact⟨this.mono λp hp=>hp.1,λ_=>this,λe=>by omega,λ_=>hab,.inr (.inl k2)⟩
 rw[if_neg k2]at h hk;by_cases k3:x.kind=3
 . rw[if_pos k3]at h;rw[if_pos k3,aH]at hk;obtain⟨host,hho,hhw⟩:∃host,x.hosts=[host]/\bk w host=true:=by
    have h1:=hk.2;unfold qe at h1;split at h1
    . rename_i n e;exact⟨n,e,h1⟩
    . cases h1
   have e:yE x=host:=by unfold yE;rw[hho]
   rw[e]at h;have:=MM h hw hn hhw rfl rfl rfl;exact⟨this,λe=>by omega,λe=>by omega,λe=>by omega,.inr (.inr (.inl k3))⟩
 rw[if_neg k3]at h hk;by_cases k4:x.kind=4
 . rw[if_pos k4]at h;rw[if_pos k4,aH,aH]at hk;obtain⟨hl,hl0,hh⟩:=mV hk.1.2;have:=Mk h hw hn hza hh hl rfl rfl rfl;exact⟨(this.mono λp hp=>hp.1).more (by decide),λe=>by omega,λ_=>this.more (by decide),λe=>by omega,.inr (.inr (.inr k4))⟩
 rw[if_neg k4]at hk;cases hk
theorem pq{z:aB}(hv:aR z=true):bG z=eP z:=by
 have ho:=bT hv;obtain⟨k,s,hk,hs,hp⟩:=Pu (we.1 hv).start;unfold bG eP;rw[KA ho.rising.pw hs hp,hs,DC];unfold atI at hk;cases hf:z.sets.findIdx? (is ⟨z.apex,4⟩)with
 |none=>rw[hf]at hk;dsimp only at hk;omega
 |some i =>
  rw[hf]at hk;have:i=k:=by dsimp only at hk;omega
  subst this;dsimp only;rw[hs];cases hd:s.set.data <;> simp[hd]
theorem yl{p q:ai}(hp:aR p.zone=true)(hq:aR q.zone=true):(ud q p<0) ↔ jR p q=true:=by
 unfold ud;rw[wM hp hq,pq hp,pq hq];unfold cR;simp only[Bool.or_eq_true,aH,decide_eq_true_eq];split <;> split <;> (try split) <;> (try split) <;> (try split) <;> omega
theorem Db(a:Bs):∀(l:List ai) (i:Nat) (b:Option (Nat×ai)),(∀p∈l,aR p.zone=true)->(∀x,b=some x->aR x.2.zone=true)->kA a b i l=iy (λp=>p.zone.apex==a) jR i l b
 |[],i,b,_,_=>rfl
 |p::t,i,b,hl,hb=>by
  have hp:=hl p (List.mem_cons_self ..);have e:lh a b i p=dO (λp=>p.zone.apex==a) jR i p b:=by
   unfold lh dO;by_cases h:p.zone.apex=a
   . rw[if_neg (by simp[h]),if_pos (by simp[h])];cases b with
     |none=>rfl
     |some x =>
      obtain⟨j,q⟩:=x;have hq:=hb _ rfl;dsimp only;by_cases hc:ud q p<0
      . rw[if_pos hc,if_pos ((yl hp hq).1 hc)]
      . rw[if_neg hc,if_neg (λh=>hc ((yl hp hq).2 h))]
   . rw[if_pos (by simp[h]),if_neg (by simp[h])]
  show kA a (lh a b i p) (i+1) t=iy _ jR (i+1) t (dO (λp=>p.zone.apex==a) jR i p b)
  rw[<- e];refine Db a t (i+1) _ (λq hq=>hl q (aZ _ hq)) λx hx=>?_
  unfold lh at hx;split at hx
  . exact hb x hx
  . split at hx
    . cases hx;exact hp
    . split at hx
      . cases hx;exact hp
      . cases hx;exact hb _ rfl
theorem sI{zs:List ai}(hv:∀p∈zs,aR p.zone=true)(a:Bs):sH zs a=fq zs a:=Db a zs 0 none hv λx hx=>by cases hx
theorem AU(a:Bs):∀(l:List ai) (i:Nat) (b x:Option (Nat×ai)),(∀y,b=some y->y.2.zone.apex=a)-> ∀y,iy (λp=>p.zone.apex==a) jR i l b=some y->y.2.zone.apex=a
 |[],i,b,_,hb,y,h=>hb y h
 |p::t,i,b,x,hb,y,h=>by
  refine AU a t (i+1) _ x (λz hz=>?_) y h;split at hz
  . rename_i hp;split at hz
    . cases hz;simpa using hp
    . split at hz
      . cases hz;simpa using hp
      . exact hb z hz
  . exact hb z hz
theorem dA{zs:List ai}{a:Bs}{k:Nat}{p:ai}(h:fq zs a=some (k,p)):zs[k]? =some p/\p.zone.apex=a:=⟨Nk zs a _ h,AU a zs 0 none none (λy hy=>by cases hy) _ h⟩
theorem Iw{zs:List ai}{a:Bs}(h:fq zs a=none):∀p∈zs,p.zone.apex≠a:=λp hp e=>by
 have:=((AW zs 0 none).1 h).2 p hp;simp[e]at this
theorem GN{zs:List ai}(hv:∀p∈zs,aR p.zone=true){a:Bs}{k:Nat}{p:ai}(h:fq zs a=some (k,p)):bz zs a=(p.zone,true):=by
 unfold bz;rw[sI hv,h]
theorem qI{s:Bs}{k:Int}{x:Signed}:isF s k x=true ↔ x.place=(s,k):=by
 unfold isF Signed.place;simp
theorem xn{s:Bs}{k:Int}:∀{l:List Signed},RP l->l.countP (isF s k)<=1
 |[],_=>by simp
 |x::t,h=>by
  obtain⟨h1,h2⟩:=List.pairwise_cons.1 h;rw[List.countP_cons];split
  . rename_i hx;have:t.countP (isF s k)=0:=by
     rw[List.countP_eq_zero];exact λy hy hk=>ui (h1 y hy) ((qI.1 hx).trans (qI.1 hk).symm)
    omega
  . have:=xn (s:=s) (k:=k) h2;omega
theorem DD{p:Signed->Bool}:∀{l:List Signed} {x:Signed},l.countP p<=1->x∈l->p x=true->l.find? p=some x
 |[],_,_,hm,_=>by cases hm
 |y::t,x,h,hm,hp=>by
  rw[List.countP_cons]at h;by_cases hy:p y=true
  . rw[if_pos hy]at h;have h0:t.countP p=0:=by omega
    rw[List.find?_cons,hy];rcases List.mem_cons.1 hm with e|hm
    . rw[e]
    . exact absurd hp (List.countP_eq_zero.1 h0 x hm)
  . rw[List.find?_cons,show p y=false by simpa using hy];rcases List.mem_cons.1 hm with e|hm
    . rw[e]at hp;exact absurd hp hy
    . exact DD (by omega) hm hp
theorem GM{p:Signed->Bool}{x:Signed}(hx:p x=true):∀(l:List Signed) (i:Nat),l.countP p<=(l.set i x).countP p
 |[],_=>by simp
 |y::t,0=>by
  rw[List.set_cons_zero,List.countP_cons,List.countP_cons,if_pos hx];split <;> omega
 |y::t,i+1=>by
  rw[List.set_cons_succ,List.countP_cons,List.countP_cons];have:=GM hx t i;omega
theorem DF{p:Signed->Bool}{x:Signed}(hx:p x=false):∀{l:List Signed} {i:Nat} {y:Signed},l[i]? =some y->p y=false->(l.set i x).find? p=l.find? p
 |y::t,0,z,h,hz=>by
  have h:y=z:=by simpa using h
  rw[List.set_cons_zero,List.find?_cons,List.find?_cons,hx,h,hz]
 |y::t,i+1,z,h,hz=>by
  rw[List.set_cons_succ,List.find?_cons,List.find?_cons,DF hx (by simpa using h) hz]
theorem KX{l:List Signed}{x:Signed}{h:Nat}(e:sM l x h=true):∃y,l[h]? =some y/\y.set.type=x.set.type:=by
 unfold sM at e;split at e
 . rename_i y hy;refine⟨y,hy,?_⟩;unfold vf cR at e;rw[beq_iff_eq]at e;split at e
   . split at e
     . cases e
     . split at e
       . cases e
       . omega
   . contradiction
 . cases e
theorem qw(z:aB)(s:Bs)(k life:Int)(d:List Datum):(∃i y,z.sets[i]? =some y/\y.set.type=k/\(bo z s k life d).sets=z.sets.set i (dN z s k life d))\/ ∃i,(bo z s k life d).sets=z.sets.take i++[dN z s k life d]++z.sets.drop i:=by
 by_cases h:sM z.sets (dN z s k life d) (bsW z.sets (dN z s k life d))=true
 . obtain⟨y,hy,ht⟩:=KX h;exact .inl ⟨_,y,hy,ht,by unfold bo;rw[if_pos h]⟩
 . exact .inr ⟨_,by unfold bo;rw[if_neg h]⟩
theorem zZ(z:aB)(s:Bs)(k life:Int)(d:List Datum):isF s k (dN z s k life d)=true:=qI.2 rfl
theorem PZ(z:aB)(s:Bs)(k life:Int)(d:List Datum):z.sets.countP (isF s k)<=(bo z s k life d).sets.countP (isF s k):=by
 rcases qw z s k life d with ⟨i,y,_,_,e⟩|⟨i,e⟩
 . rw[e];exact GM (zZ ..) _ _
 . rw[e,List.countP_append,List.countP_append];have h:z.sets.countP (isF s k)=(z.sets.take i).countP (isF s k)+(z.sets.drop i).countP (isF s k):=by rw[<- List.countP_append,List.take_append_drop]
   omega
theorem GF(z:aB)(s:Bs)(k life:Int)(d:List Datum):dN z s k life d∈(bo z s k life d).sets:=by
 rcases qw z s k life d with ⟨i,y,h,_,e⟩|⟨i,e⟩
 . rw[e];exact List.mem_set (aq.1 h).1 _
 . rw[e];simp
theorem rR(z:aB)(s:Bs){k:Int}(life:Int)(d:List Datum)(s' :Bs){k' :Int}(hk:k' ≠k):wfR (bo z s k life d) s' k' =wfR z s' k' :=by
 have hx:isF s' k' (dN z s k life d)=false:=by
  unfold isF dN;simp[Ne.symm hk]
 unfold wfR kB;rcases qw z s k life d with ⟨i,y,h,ht,e⟩|⟨i,e⟩
 . rw[e,DF hx h (by unfold isF;simp[ht,Ne.symm hk])]
 . rw[e,List.append_assoc,List.find?_append,List.find?_append,List.find?_singleton,hx]
   conv=>rhs;rw[<- List.take_append_drop i z.sets,List.find?_append]
   rfl
theorem Da{z:aB}(s:Bs){k:Int}(life:Int)(d:List Datum){x:Signed}(hx:x∈z.sets)(hk:x.set.type≠k):x∈(bo z s k life d).sets:=by
 rcases qw z s k life d with ⟨i,y,h,ht,e⟩|⟨i,e⟩
 . rw[e];obtain⟨j,hj⟩:=cd hx;refine ar (i:=j) ?_;rw[List.getElem?_set_ne,hj];rintro rfl;rw[h]at hj;cases hj;exact hk ht
 . rw[e];rw[<- List.take_append_drop i z.sets]at hx;rcases List.mem_append.1 hx with hx|hx <;> simp[hx]
theorem HJ{z:aB}{s:Bs}{k:Int}{x:Signed}(h:z.sets.countP (isF s k)<=1)(hx:x∈z.sets)(hp:isF s k x=true):wfR z s k=(x.set,true):=by
 unfold wfR kB;rw[DD h hx hp]
theorem Ao(w:aL)(life:Int)(cut:Bs)(s:Bs){k:Int}(hk:k≠1):∀(l:List Int) (z:aB),wfR (cn w life cut l z) s k=wfR z s k
 |[],z=>rfl
 |n::t,z=>by
  show wfR (cn w life cut t (jy w life cut z n)) s k=_
  rw[Ao w life cut s hk t];unfold jy;split
  . exact rR _ _ _ _ _ hk
  . rfl
theorem Bm(w:aL)(life:Int)(cut:Bs){x:Signed}(hk:x.set.type≠1):∀(l:List Int) {z:aB},x∈z.sets->x∈(cn w life cut l z).sets
 |[],z,h=>h
 |n::t,z,h=>by
  show x∈(cn w life cut t (jy w life cut z n)).sets
  refine Bm w life cut hk t ?_;unfold jy;split
  . exact Da _ _ _ h hk
  . exact h
theorem Jl{z:aB}{ns:List Bs}{y:ck}(h:y∈gx z ns):y.type=8:=by
 unfold gx at h;obtain⟨i,_,rfl⟩:=List.mem_map.1 h;rfl
theorem py{p:Signed->Bool}:∀(l:List Signed) (nx:List ck) (acc:List Signed),(∀y∈nx,p ⟨y,[]⟩=false)->(gL l nx acc).find? p=(acc++l).find? p
 |[],nx,acc,_=>by rw[BS,List.append_nil]
 |s::t,nx,acc,h=>by
  rw[zS];split
  . rw[py t nx _ h,List.append_assoc];rfl
  . split
    . rw[py t nx.tail _ λy hy=>h y (List.mem_of_mem_tail hy)];cases nx with
      |nil=>simp
      |cons y nx =>
       have:=h y (List.mem_cons_self ..);simp only[List.tail_cons,List.find?_append,List.append_assoc,List.find?_cons,List.find?_nil,this,List.cons_append,List.nil_append]
    . rw[py t nx _ h,List.append_assoc];rfl
theorem KM{z:aB}(h:(eo z).2=0)(s:Bs){k:Int}(hk:k≠8):wfR (eo z).1 s k=wfR z s k:=by
 unfold eo at h ⊢;split at h
 . cases h
 rename_i g1;rw[if_neg g1];split at h
 . rename_i g2;exact absurd h (by simpa using g2)
 rename_i g2;rw[if_neg g2];split at h
 . cases h
 rename_i g3;rw[if_neg g3];dsimp only;unfold wfR kB;dsimp only;rw[py _ _ _ λy hy=>by
  have:y.type=8:=Jl hy;unfold isF;simp[this,Ne.symm hk],List.nil_append]
 have:∀l:List Signed,(l.filter kg).find? (isF s k)=l.find? (isF s k):=λl=>by
  rw[List.find?_filter]
  congr 1
  funext x
  unfold kg isF;by_cases hx:x.set.type=k
  . rw[hx,show(k != 8)=true by simp[hk]];cases (x.set.name==s&&k==k) <;> rfl
  . simp[hx]
 unfold ed;rw[this]
theorem BC(apex:Bs)(K:List dy)(a b:Int)(s:Bs)(k:Int):∀(os:List Bool) (l:List Signed),os.length=l.length->((gK apex K a b os l).find? (isF s k)).map (·.set)=(l.find? (isF s k)).map (·.set)
 |[],[],_=>rfl
 |o::os,x::t,h=>by
  have e:isF s k (zr apex K a b o x)=isF s k x:=rfl;rw[gK,List.find?_cons,List.find?_cons,e];cases isF s k x with
  |true=>rfl
  |false=>exact BC apex K a b s k os t (by simpa using h)
theorem HH(z:aB)(s:Bs)(k:Int):wfR z s k=match (z.sets.find? (isF s k)).map (·.set)with|some x=>(x,true)|none=>(oE,false):=by
 unfold wfR kB;cases z.sets.find? (isF s k) <;> rfl
theorem OR(z:aB)(K:List dy)(a b:Int)(s:Bs)(k:Int):wfR (kC z K a b) s k=wfR z s k:=by
 rw[HH,HH];have:=BC z.apex K a b s k (kS z) z.sets (qS _ _ _);unfold kC;dsimp only;rw[this]
theorem zp(apex:Bs)(K:List dy)(a b:Int):∀(os:List Bool) (l:List Signed),os.length=l.length->(gK apex K a b os l).map (·.set)=l.map (·.set)
 |[],[],_=>rfl
 |o::os,x::t,h=>by
  rw[gK,List.map_cons,List.map_cons,zp apex K a b os t (by simpa using h)];rfl
theorem Et(isC isC' :Bs->Bool)(hC:∀s,isC s=isC' s):∀(c:Bs) (l l' :List Signed),l.map (·.set)=l'.map (·.set)->lY isC c l=lY isC' c l'
 |_,[],[],_=>rfl
 |c,x::t,y::t',h=>by
  simp only[List.map_cons,List.cons.injEq]at h;have e:fQ isC c x=fQ isC' c y:=by unfold fQ;rw[h.1,hC]
  have e2:∀cc,uW cc x=uW cc y:=λcc=>by unfold uW;rw[h.1]
  rw[lY,lY,e,e2,Et isC isC' hC _ t t' h.2]
 |_,[],_::_,h=>by cases h
 |_,_::_,[],h=>by cases h
theorem Np(apex:Bs):∀(l l' :List Signed),l.map (·.set)=l'.map (·.set)-> ∀s,fD apex l s=fD apex l' s:=by
 intro l l' h s;unfold fD;have:∀l:List Signed,l.any (λx=>oK apex x&&(x.set.name==s))=(l.map (·.set)).any (λy=>oK apex ⟨y,[]⟩&&(y.name==s)):=λl=>by rw[List.any_map];rfl
 first
  |rw[this,this,h]
  |(simp only[this,h])
theorem OD(z:aB)(K:List dy)(a b:Int):kS (kC z K a b)=kS z:=by
 have h:(kC z K a b).sets.map (·.set)=z.sets.map (·.set):=zp _ _ _ _ _ _ (qS _ _ _);exact Et _ _ (Np z.apex _ _ h) _ _ _ h
theorem wU(apex:Bs)(K:List dy)(a b:Int):∀(os:List Bool) (l:List Signed),gK apex K a b os (gK apex K a b os l)=gK apex K a b os l
 |[],_=>by rw[gK.eq_def,gK.eq_def]
 |o::os,[]=>rfl
 |o::os,x::t=>by rw[gK,gK,wU apex K a b os t];rfl
theorem JL(z:aB)(K:List dy)(a b:Int):kC (kC z K a b) K a b=kC z K a b:=by
 show(⟨z.apex,gK z.apex K a b (kS (kC z K a b)) (gK z.apex K a b (kS z) z.sets)⟩:aB)=_
 rw[OD,wU];rfl
structure xX(since till:Int)(n:Int)(z:aB):Prop where
 valid:aR z=true
 next:(ik n).2=0
 serial:eP z=(ik n).1
 has:(wfR z z.apex 7).2=true
 keys:(cE (wfR z z.apex 7).1).2=0
 again:ib z (cE (wfR z z.apex 7).1).1 since till=(z,0)
theorem EI{since till:Int}{y z:aB}(h:cG since till y=some z):xX since till (gh (wfR y y.apex 4).1).n z:=by
 have ha:=eh h;obtain⟨h1,h2,h3,h4,h5,h6,h7,h8,e⟩:=rD h;have hap:(eD y).apex=y.apex:=rfl;have hall:∀(c:aB) (K:List dy),(ib c K since till).2=0->ib c K since till=(kC c (ma K) since till,0)/\ ∀z,aR z=true->ib z K since till=(kC z (ma K) since till,0):=λc K hk=>by
  have hA:∀z,aR z=true->od c K since till=true->od z K since till=true:=λz hz hc=>by
   unfold od at hc ⊢;simp only[Bool.not_eq_true',Bool.or_eq_false_iff,Bool.not_eq_false']at hc ⊢;exact⟨hc.1,hz⟩
  unfold ib at hk ⊢;split at hk
  . cases hk
  rename_i g1;rw[if_neg g1];split at hk
  . cases hk
  rename_i g2;rw[if_neg g2];split at hk
  . cases hk
  rename_i g3;rw[if_neg g3];refine⟨rfl,λz hz=>?_⟩;rw[if_neg (by rw[hA z hz (by simpa using g1)];decide),if_neg g2,if_neg g3]
 obtain⟨g1,g2⟩:=hall _ _ h7;rw[g1]at e;dsimp only at e;have hw:∀k:Int,k≠8->wfR z z.apex k=wfR (eD y) (eD y).apex k:=λk hk=>by
  rw[ha,hap]
  conv=>lhs;rw[e]
  rw[OR,KM h6 _ hk]
 have hst:wfR (eD y) y.apex 4=((dN y y.apex 4 0 [⟨[],(ik (gh (wfR y y.apex 4).1).n).1,(gh (wfR y y.apex 4).1).m⟩]).set,true) :=
  HJ (xn (bT h5).rising.pw) (GF ..) (zZ ..)
 refine⟨h8,h2,?_,?_,?_,?_⟩
 . rw[<- pq h8];have h0:=hw 4 (by decide);rw[hap,hst]at h0;unfold bG;unfold wfR at h0;cases hf:kB z z.apex 4 with
   |none=>rw[hf]at h0;exact absurd (congrArg Prod.snd h0) (by simp)
   |some x =>
    rw[hf]at h0;have h0:=congrArg Prod.fst h0;dsimp only at h0 ⊢;rw[h0];rfl
 . rw[hw 7 (by decide)];exact h3
 . rw[hw 7 (by decide)];exact h4
 . rw[hw 7 (by decide),g2 z h8]
   conv=>lhs;rw[e]
   conv=>rhs;rw[e]
   rw[JL]
theorem AT{cx:Cx}{st st1:St}{X:St->Prop}(hw:aF cx st st1)(h:App X st1):∃st',aF cx st st' /\X st' :=⟨st1,hw,h⟩
theorem SO{n:Int}(h:0<=n):decide (n>=0)=true:=decide_eq_true h
end Go.Proofs.YtodofogcincleaaGreatDoor
