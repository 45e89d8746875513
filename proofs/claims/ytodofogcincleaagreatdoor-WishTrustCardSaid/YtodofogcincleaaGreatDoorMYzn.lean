/-
  Merged texts.
-/
import Derived.Test.YtodofogcincleaaGreatDoorYzmM
import Derived.Test.YtodofogcincleaaGreatDoorMYzf
set_option linter.all false
set_option maxHeartbeats 8000000
set_option maxRecDepth 100000
namespace Go.Proofs.YtodofogcincleaaGreatDoor
open NQ Go.RowKit
def Jz(w:aZ)(x:bA)(since aN:Int):bz:=⟨w,since,aN,(bS w.ai x.ah).1,(wfR (bS w.ai x.ah).1 x.ah 2).1.aP,[],[],[]⟩
def Al(x:bA):Int:=match x.ay with|n::_=>n|[]=>0
def uk(o:bz)(x:bA):Option bz:=if x.kind=1 then rK o x else if x.kind=2 then mQ o x else if x.kind=3 then tK o x (Al x)else if x.kind=4 then rh o x else some o
def nf(w:aZ)(x:bA)(since aN:Int):Option bz:=if (wfR (bS w.ai x.ah).1 x.ah 2).2=true then uk (Jz w x since aN) x else none
noncomputable def iq:Cx:={cx with chg:=gX [(62,10),(63,11),(64,9),(65,9),(66,9),(67,9)]}
theorem LU:bD iq:=bo
theorem Ca:iq.P.follows .mixedOrders=true:=mixed
def PX:Nat->List Nat:=fun|5=>[33333,55555]|6=>[33333,55555]|7=>[55555]|9=>[33333]|11=>[33333]|13=>[33333]|15=>[33333]|16=>[90041]|_=>[]
noncomputable abbrev po:Code:=(Tryz.f29).body.getD .skip
def yI(a b:AV):List (Nat×Blk):=[(100008,.box [a]),(100009,.box [b])]
def QpS(r:Option bz):St->Prop:=λst=>r=none/\st.get 8= .ptr 100008 0/\st.get 9= .ptr 100009 0/\(∃c,find st.heap 100008=some (.box [c]))/\ ∃c,find st.heap 100009=some (.box [c])
def QrS(r:Option bz):Ex->St->Prop:=λe st=>match e with
 | .ret=> ∃o,r=some o/\aq iq [100034] st ⟨[(8,.ptr 100008 0),(9,.ptr 100009 0)],yI (.d (.slice 1 (o.bp.map dC))) (.d (.int .i64 0))⟩
 |_=>False
def stS(w:aZ)(x:bA)(since aN:Int):St:=⟨[(2,.d (.int .i64 since)),(3,.d (.int .i64 aN)),(4,.ptr 4 0),(5,.ptr 5 0),(8,.ptr 100008 0),(9,.ptr 100009 0)],(4,.box ((bu w).map .d))::(5,.box ((bj x).map .d))::yI (.nil 1) (.d (.int .i64 0))⟩
theorem ye{w:aZ}:∀(l:List Int) {seen:List Bs},lO w seen l=true-> ∀n∈l,bJ w n=true
 |[],_,_,n,hn=>by cases hn
 |m::t,seen,h,n,hn=>by
  unfold lO at h;simp only[aU]at h;rcases List.mem_cons.1 hn with rfl|hn
  .exact h.1.1
  .exact ye t h.2 n hn
theorem nM{w:aZ}{l:List Int}(h:gR w l=true):l.length<=8/\l≠[]/\ ∀n∈l,bJ w n=true:=by
 unfold gR at h;simp only[aU,Bool.not_eq_true',Bool.or_eq_false_iff,decide_eq_false_iff_not]at h;refine⟨by omega,λe=>?_,ye l h.2⟩;subst e;simp at h
attribute [local irreducible] NQ.FnP
theorem IA(w:aZ)(x:bA)(since aN:Int)(hv:∀p∈w.ai,bf p.ah=true)(hn:w.ai.length<=20)(ks:w.ay.length<=1000)(hc:(bS w.ai x.ah).2=true)(hk:kA w x=true) :
 vcp iq [100034] pvW (Tryz.f29).ntmps PX (QpS (nf w x since aN)) ((gL 4 po).getD .skip) (QrS (nf w x since aN)) (stS w x since aN):=by
 conv=>whnf
 have hC:=lift (cx' :=iq) (jm w x.ah hv (by omega)) rfl rfl;have kL:∃r,r=nf w x since aN:=⟨_,rfl⟩
 obtain⟨r,hr⟩:=kL;rw[<- hr];unfold nf Jz at hr;have kP:(bS w.ai x.ah).2=true->bf (bS w.ai x.ah).1=true:=λh=>by
  rcases eW w.ai x.ah with ⟨p,hp,e,_⟩|⟨e,_⟩
  .rw[e];exact hv p hp
  .rw[e]at h;cases h
 have hz:=kP hc;generalize bS w.ai x.ah=c at hC hr hz hc;obtain⟨c,c2⟩:=c;dsimp only at hC hr hz hc;subst hc;refine⟨_,aq.trans (aq.keep (sl:=[(4,.ptr 4 0),(5,.ptr 5 0),(8,.ptr 100008 0),(9,.ptr 100009 0),(10,.ptr 34 0)]) (h:=(34,.box ((bu w).map .d++[.d (.int .i64 since),.d (.int .i64 aN),.d (.str []),.nil 5,.d (.int .i64 0),.omap 32,.nil 3,.nil 1]))::(32,.smap [])::(4,.box ((bu w).map .d))::(5,.box ((bj x).map .d))::yI (.nil 1) (.d (.int .i64 0))))
  (aq.trans (aq.name 34 100034 rfl rfl) (aq.trans (aq.name 32 90032 rfl rfl) (aq.trans (aq.jw 100034 13 90040 3 _ 45 3 rfl rfl rfl (by decide)) (aq.trans (aq.jw 100034 14 90041 1 _ 40 1 rfl rfl rfl (by decide))
  (aq.keep (sl:=[(5,.ptr 5 0),(8,.ptr 100008 0),(9,.ptr 100009 0),(10,.ptr 100034 0)]) (h:=(5,.box ((bj x).map .d))::(100008,.box [.nil 1])::(100009,.box [.d (.int .i64 0)])::(100034,.box ((bu w).map .d++[.d (.int .i64 since),.d (.int .i64 aN),.d (.str []),.nil 5,.d (.int .i64 0),.omap 90032,.own 90040,.own 90041]))::(90032,.smap [])::(90040,.row 45 3 [])::(90041,.row 40 1 [])::[])))))),?_⟩
 conv=>whnf
 (refine cu ?_;conv=>whnf)
 have hC:=bU (pv' :=pvW) hC;refine⟨[5,100008,100009,100034,90032,90040,90041],_,hC,⟨rfl,rfl,rfl⟩,?_⟩;conv=>whnf
 refine aL ?_;conv=>whnf
 repeat (refine cO ?_;conv=>whnf)
 refine⟨_,aq.keep (sl:=[(5,.ptr 5 0),(8,.ptr 100008 0),(9,.ptr 100009 0),(10,.ptr 100034 0)]) (h:=(5,.box ((bj x).map .d))::(100008,.box [.nil 1])::(100009,.box [.d (.int .i64 0)])::(100034,.box ((bu w).map .d++[.d (.int .i64 since),.d (.int .i64 aN),.d (.str c.af),.d (.slice 5 (c.ak.map aw)),.d (.int .i64 0),.omap 90032,.own 90040,.own 90041]))::(90032,.smap [])::(90040,.row 45 3 [])::(90041,.row 40 1 [])::[]),?_⟩;conv=>whnf
 have hN:=uq c x.ah 2 (by have:=(dz hz).1;omega);generalize wfR c x.ah 2=s2 at hN hr;obtain⟨s2,b2⟩:=s2;dsimp only at hN hr;cases b2 with
 |false =>
  rw[if_neg (by decide)]at hN hr;have hN:=lift (cx' :=iq) hN rfl rfl
  (refine cu ?_;conv=>whnf)
  refine⟨[5,100008,100009,100034,90032,90040,90041],_,hN,⟨rfl,rfl,rfl⟩,?_⟩;exact⟨hr,rfl,rfl,⟨_,rfl⟩,⟨_,rfl⟩⟩
 |true =>
 rw[if_pos rfl]at hN hr;have hN:=lift (cx' :=iq) hN rfl rfl
 (refine cu ?_;conv=>whnf)
 refine⟨[5,100008,100009,100034,90032,90040,90041],_,hN,⟨rfl,rfl,rfl⟩,?_⟩;conv=>whnf
 refine aL ?_;conv=>whnf
 repeat (refine cO ?_;conv=>whnf)
 generalize ho:bz.mk w since aN c s2.aP [] [] []=o at hr
 refine⟨_,aq.keep (sl:=[(5,.ptr 5 0),(8,.ptr 100008 0),(9,.ptr 100009 0),(10,.ptr 100034 0)]) (h:=(5,.box ((bj x).map .d))::(100008,.box [.nil 1])::(100009,.box [.d (.int .i64 0)])::bH o) (by repeat' (first|exact trivial|refine⟨⟨rfl,rfl⟩,?_⟩)) (by subst ho;exact(by repeat' (first|exact trivial|refine⟨⟨rfl,rfl⟩,?_⟩))),?_⟩;conv=>whnf
 have ow:o.w=w:=by rw[<- ho]
 have oz:o.ah=c:=by rw[<- ho]
 have op:o.aF=[]:=by rw[<- ho]
 have os:o.bp=[]:=by rw[<- ho]
 have og:o.got=[]:=by rw[<- ho]
 clear ho;rw[<- ow]at hv hn ks hk;rw[<- oz]at hz;clear hC hN;unfold kA at hk;by_cases k1:x.kind=1
 .rw[show(x.kind==1)=true by simp[k1]];rw[if_pos k1,aU]at hk;obtain⟨hl,hT,hh⟩:=nM hk.2;have hQ:r=rK o x:=by rw[hr];unfold uk;rw[if_pos k1]
  have hM:=lift (cx' :=iq) (Qv o x hv (by omega) hz op (by rw[os];simp) og (by omega) hT hh) rfl rfl;rw[<- hQ]at hM;conv=>whnf
  cases r with
  |none =>
   refine⟨[5,100008,100009],_,hM,⟨rfl,rfl,rfl⟩,?_⟩;exact⟨rfl,rfl,rfl,⟨_,rfl⟩,⟨_,rfl⟩⟩
  |some o2 =>
   refine⟨[5,100008,100009],_,hM,⟨rfl,rfl,rfl⟩,?_⟩;conv=>whnf
   refine aL ?_;conv=>whnf
   exact⟨o2,rfl,aq.keep⟩
 rw[show(x.kind==1)=false by simp[k1]];rw[if_neg k1]at hk;conv=>whnf
 by_cases k2:x.kind=2
 .rw[show(x.kind==2)=true by simp[k2]];have hQ:r=mQ o x:=by rw[hr];unfold uk;rw[if_neg k1,if_pos k2]
  have hM:=lift (cx' :=iq) (Ql o x hv (by omega) hz op (by rw[os];simp) og) rfl rfl;rw[<- hQ]at hM;conv=>whnf
  cases r with
  |none =>
   refine⟨[5,100008,100009],_,hM,⟨rfl,rfl,rfl⟩,?_⟩;exact⟨rfl,rfl,rfl,⟨_,rfl⟩,⟨_,rfl⟩⟩
  |some o2 =>
   refine⟨[5,100008,100009],_,hM,⟨rfl,rfl,rfl⟩,?_⟩;conv=>whnf
   refine aL ?_;conv=>whnf
   exact⟨o2,rfl,aq.keep⟩
 rw[show(x.kind==2)=false by simp[k2]];rw[if_neg k2]at hk;conv=>whnf
 by_cases k3:x.kind=3
 .rw[show(x.kind==3)=true by simp[k3]];rw[if_pos k3,aU]at hk;obtain⟨host,kb,ke⟩:∃host,x.ay=[host]/\bJ o.w host=true:=by
   have h1:=hk.2;unfold qQ at h1;split at h1
   .rename_i n e;exact⟨n,e,h1⟩
   .cases h1
  have hQ:r=tK o x host:=by rw[hr];unfold uk;rw[if_neg k1,if_neg k2,if_pos k3];unfold Al;rw[kb]
  have hM:=lift (cx' :=iq) (OY o x host kb ke hv hn ks op (by rw[os];simp) og hz) rfl rfl;rw[<- hQ]at hM;conv=>whnf
  cases r with
  |none =>
   refine⟨[5,100008,100009],_,hM,⟨rfl,rfl,rfl⟩,?_⟩;exact⟨rfl,rfl,rfl,⟨_,rfl⟩,⟨_,rfl⟩⟩
  |some o2 =>
   refine⟨[5,100008,100009],_,hM,⟨rfl,rfl,rfl⟩,?_⟩;conv=>whnf
   refine aL ?_;conv=>whnf
   exact⟨o2,rfl,aq.keep⟩
 rw[show(x.kind==3)=false by simp[k3]];rw[if_neg k3]at hk;conv=>whnf
 by_cases k4:x.kind=4
 .rw[show(x.kind==4)=true by simp[k4]];rw[if_pos k4,aU,aU]at hk;obtain⟨hl,hT,hh⟩:=nM hk.1.2;have hQ:r=rh o x:=by rw[hr];unfold uk;rw[if_neg k1,if_neg k2,if_neg k3,if_pos k4]
  have hM:=lift (cx' :=iq) (Ot o x (by omega) (by omega) hT hh op (by rw[os];simp) og hz) rfl rfl;rw[<- hQ]at hM;conv=>whnf
  cases r with
  |none =>
   refine⟨[5,100008,100009],_,hM,⟨rfl,rfl,rfl⟩,?_⟩;exact⟨rfl,rfl,rfl,⟨_,rfl⟩,⟨_,rfl⟩⟩
  |some o2 =>
   refine⟨[5,100008,100009],_,hM,⟨rfl,rfl,rfl⟩,?_⟩;conv=>whnf
   refine aL ?_;conv=>whnf
   exact⟨o2,rfl,aq.keep⟩
 rw[if_neg k4]at hk;cases hk
theorem yQ(z:aO)(s:Bs)(k:Int):mn z s k=match z.ak.findIdx? (is ⟨s,k⟩)with|some i=>z.ak[i]? |none=>none:=by
 unfold mn;rw[<- lM];rfl
def cn(l:List ao)(p:ao):List ao:=(l.filter λq=>(q.host != p.host)||(q.ah.af != p.ah.af))++(if p.ah.ak=[]then[]else[p])
def jk(w:aZ)(s:List ao):aZ:=⟨w.ay,s.foldl cn w.ai,w.anchor,w.hints⟩
theorem JZ(l:List ao)(p:ao):(cn l p).length<=l.length+1:=by
 unfold cn;rw[List.length_append];have:=List.length_filter_le (λq:ao=>(q.host != p.host)||(q.ah.af != p.ah.af)) l;split <;> simp <;> omega
theorem vf:∀(s:List ao) (l:List ao),(s.foldl cn l).length<=l.length+s.length
 |[],l=>by simp
 |p::t,l=>by
  have h1:=vf t (cn l p);have h2:=JZ l p;simp only[List.foldl_cons,List.length_cons];omega
def oe(zs:List ao)(af:Bs):Nat->Bs->Int
 |0,_=> -1
 |f+1,s=>if s=[46]then -1 else match gh zs (dw s)with
  |none=>oe zs af f (dw s)
  |some (k,p)=>if (wfR p.ah af 2).2=true then(k:Int)else -1
def oW(zs:List ao)(af:Bs):Int:=if bq af=true then oe zs af ((cF af).length+1) af else -1
theorem Fo(z:aO)(s:Bs)(k:Int)(hn:z.ak.length<=100000):NQ.Fn cx 13 [.agg (aX z),.str s,.int .i64 k] (.tuple [.agg ((cg (wfR z s k).1).map .d),.d (.bool (wfR z s k).2)]) []:=by
 refine aT bo mixed Tryz.func13 ?_;conv=>whnf
 have fA:=Kb z ⟨s,k⟩ hn;unfold atI at fA;have hw:wfR z s k=match z.ak.findIdx? (is ⟨s,k⟩)with|some i=>(match z.ak[i]? with|some x=>(x.set,true)|none=>(pq,false))|none=>(pq,false):=by
  unfold wfR;rw[yQ];cases z.ak.findIdx? (is ⟨s,k⟩) <;> rfl
 rw[hw];cases hi:z.ak.findIdx? (is ⟨s,k⟩)with
 |none =>
  rw[hi]at fA
  (refine⟨_,_,fA,?_⟩;conv=>whnf)
  exact al rfl rfl
 |some i =>
  rw[hi]at fA;obtain⟨hE,_,_⟩:=List.findIdx?_eq_some_iff_getElem.1 hi
  (refine⟨_,_,fA,?_⟩;conv=>whnf)
  rw[show decide ((i:Int)<0)=false by simp];conv=>whnf
  refine⟨aC i,aw z.ak[i],aM (au hE),?_⟩;conv=>whnf
  refine al rfl ?_;dsimp only;rw[au hE];rfl
theorem Mq(w:aZ)(s:List ao)(hn:w.ai.length+s.length<=100000):NQ.Fn cx 34 [.agg (bu w),.agg (dC s)] (.agg ((bu (jk w s)).map .d)) []:=by
 refine eR (fun|13=>[57]|_=>[]) bo mixed Tryz.func34 ?_;conv=>whnf
 refine⟨Nat×aZ,λq=>⟨[(2,.ptr 2 0),(3,.ptr 3 0),(4,.ptr 4 0),(5,.d (.int .i64 q.1))],[(2,.box ((bu q.2).map .d)),(3,.box [.d (.slice 3 (s.map aR))]),(4,.box [.nil 3,.nil 3,.d (.str []),.d (.int .i64 0),.d (.int .i64 0),.nil 3,.nil 1])]⟩,λq=>q.1<=s.length/\q.2=jk w (s.take q.1),λq=>s.length-q.1,
  ⟨(0,w),⟨Nat.zero_le _,rfl⟩,aK.keep⟩,?_⟩
 rintro⟨k,wk⟩ ⟨hk,hY⟩;dsimp only at hk hY;have hz:wk.ai.length<=w.ai.length+k:=by
  have:=vf (s.take k) w.ai;rw[List.length_take]at this;rw[hY];show((s.take k).foldl cn w.ai).length<=_
  omega
 conv=>whnf
 refine aj (λh1=>?_) (λh1=>?_) <;> (rw[h1];conv=>whnf)
 .have hE:k<s.length:=by simp at h1;omega
  obtain⟨p,hp⟩:∃p,s[k]? =some p:=⟨_,au hE⟩
  refine⟨aC k,aR p,aM hp,?_⟩;conv=>whnf
  refine⟨Nat,λj=>⟨[(2,.ptr 2 0),(3,.ptr 3 0),(4,.ptr 4 0),(5,.d (.int .i64 k)),(6,.ptr 6 0),(7,.own 57),(8,.d (.int .i64 j))],[(57,.row 45 3 (((wk.ai.take j).filter λq=>(q.host != p.host)||(q.ah.af != p.ah.af)).map aR)),(2,.box ((bu wk).map .d)),(3,.box [.d (.slice 3 (s.map aR))]),(4,.box [.nil 3,.nil 3,.d (.str []),.d (.int .i64 0),.d (.int .i64 0),.nil 3,.nil 1]),(6,.box ((aR p).map .d))]⟩,λj=>j<=wk.ai.length,λj=>wk.ai.length-j,
   ⟨0,Nat.zero_le _,(aK.jV 7 57 3 45 3 rfl rfl (by decide)).trans (aK.keep)⟩,?_⟩
  intro j hj;conv=>whnf
  refine aj (λh2=>?_) (λh2=>?_) <;> (rw[h2];conv=>whnf)
  .have hR:j<wk.ai.length:=by simp at h2;omega
   obtain⟨q,hq⟩:∃q,wk.ai[j]? =some q:=⟨_,au hR⟩
   have ko:=List.length_filter_le (λq:ao=>(q.host != p.host)||(q.ah.af != p.ah.af)) (wk.ai.take j);rw[List.length_take]at ko;have hB:(wk.ai.take (j+1)).filter (λq=>(q.host != p.host)||(q.ah.af != p.ah.af))=(wk.ai.take j).filter (λq=>(q.host != p.host)||(q.ah.af != p.ah.af))++if ((q.host != p.host)||(q.ah.af != p.ah.af))=true then[q]else[]:=by
    rw[bO hq,List.filter_append,List.filter_cons,List.filter_nil]
   (refine bV ?_;conv=>whnf)
   refine⟨aC j,aR q,aM hq,?_⟩;conv=>whnf
   repeat' (first
    |(refine⟨aC j,aR q,aM hq,?_⟩;conv=>whnf)
    |(refine aj (λh=>?_) (λh=>?_) <;> (rw[h];conv=>whnf))|fail)
   iterate 2
    .have hc:((q.host != p.host)||(q.ah.af != p.ah.af))=true:=by simp_all
     rw[if_pos hc]at hB;have hW:((wk.ai.take (j+1)).filter (λq=>(q.host != p.host)||(q.ah.af != p.ah.af))).map aR=((wk.ai.take j).filter (λq=>(q.host != p.host)||(q.ah.af != p.ah.af))).map aR++[aR q]:=by rw[hB,List.map_append];rfl
     refine⟨by simp;omega,by simp;omega,?_⟩;conv=>whnf
     refine⟨j+1,hR,by(show wk.ai.length-(j+1)<wk.ai.length-j;omega),aK.keep ⟨ae,ae,ae,ae,ae,ae,⟨ax (k:=j) (by omega),rfl⟩,trivial⟩ ⟨⟨by rw[hW];rfl,rfl⟩,(by repeat' (first|exact trivial|refine⟨ae,?_⟩))⟩⟩
   .have hc:¬((q.host != p.host)||(q.ah.af != p.ah.af))=true:=by simp_all
    rw[if_neg hc,List.append_nil]at hB;refine⟨j+1,hR,by(show wk.ai.length-(j+1)<wk.ai.length-j;omega),aK.keep ⟨ae,ae,ae,ae,ae,ae,⟨ax (k:=j) (by omega),rfl⟩,trivial⟩ ⟨⟨by rw[hB];rfl,rfl⟩,(by repeat' (first|exact trivial|refine⟨ae,?_⟩))⟩⟩
  .obtain rfl:j=wk.ai.length:=by simp at h2;omega
   have ko:=List.length_filter_le (λq:ao=>(q.host != p.host)||(q.ah.af != p.ah.af)) wk.ai;have hL:jk w (s.take (k+1))=⟨wk.ay,cn wk.ai p,wk.anchor,wk.hints⟩:=by
    rw[hY];unfold jk;rw[bO hp,List.foldl_append];rfl
   refine aj (λh3=>?_) (λh3=>?_) <;> (rw[h3];conv=>whnf)
   .have hF:p.ah.ak≠[]:=by intro e;simp[e]at h3
    have hP:(cn wk.ai p).map aR=((wk.ai.take wk.ai.length).filter (λq=>(q.host != p.host)||(q.ah.af != p.ah.af))).map aR++[aR p]:=by
     rw[List.take_length];unfold cn;rw[if_neg hF,List.map_append];rfl
    refine⟨by simp;omega,by simp;omega,?_⟩;conv=>whnf
    refine⟨(k+1,_),⟨hE,hL.symm⟩,by(show s.length-(k+1)<s.length-k;omega),aK.keep ⟨ae,ae,ae,⟨ax (k:=k) (by omega),rfl⟩,trivial⟩ ⟨⟨?_,rfl⟩,(by repeat' (first|exact trivial|refine⟨ae,?_⟩))⟩⟩;show _=some (Blk.box [.d (.slice 3 (wk.ay.map fJ)),.d (.slice 3 ((cn wk.ai p).map aR)),.d (.str wk.anchor.name),.d (.int .i64 wk.anchor.type),.d (.int .i64 wk.anchor.aP),.d (.slice 3 (wk.anchor.data.map aQ)),.d (.slice 1 (wk.hints.map kx))])
    rw[hP];rfl
   .have hF:p.ah.ak=[]:=by
     cases e:p.ah.ak with
     |nil=>rfl
     |cons a t=>rw[e]at h3;simp at h3
    have hP:(cn wk.ai p).map aR=((wk.ai.take wk.ai.length).filter (λq=>(q.host != p.host)||(q.ah.af != p.ah.af))).map aR:=by
     rw[List.take_length];unfold cn;rw[if_pos hF,List.append_nil]
    refine⟨(k+1,_),⟨hE,hL.symm⟩,by(show s.length-(k+1)<s.length-k;omega),aK.keep ⟨ae,ae,ae,⟨ax (k:=k) (by omega),rfl⟩,trivial⟩ ⟨⟨?_,rfl⟩,(by repeat' (first|exact trivial|refine⟨ae,?_⟩))⟩⟩;show _=some (Blk.box [.d (.slice 3 (wk.ay.map fJ)),.d (.slice 3 ((cn wk.ai p).map aR)),.d (.str wk.anchor.name),.d (.int .i64 wk.anchor.type),.d (.int .i64 wk.anchor.aP),.d (.slice 3 (wk.anchor.data.map aQ)),.d (.slice 1 (wk.hints.map kx))])
    rw[hP];rfl
 .obtain rfl:k=s.length:=by simp at h1;omega
  rw[List.take_length]at hY;subst hY;exact al rfl rfl
theorem Mk(w:aZ)(a:Bs)(hv:∀p∈w.ai,bf p.ah=true)(hn:w.ai.length<=100000):NQ.Fn cx 16 [.agg (bu w),.str a] (.d (.int .i64 (oW w.ai a))) []:=by
 refine aT bo mixed Tryz.func16 ?_;conv=>whnf
 (refine⟨_,_,Mi a,?_⟩;conv=>whnf)
 refine aj (λh1=>?_) (λh1=>?_) <;> (rw[h1];conv=>whnf)
 .have hv:bq a=false:=by simpa using h1
  refine al rfl ?_;unfold oW;rw[if_neg (by rw[hv];decide)];rfl
 have hK:bq a=true:=by simpa using h1
 have kd:oe w.ai a ((cF a).length+1) a=oW w.ai a:=by unfold oW;rw[if_pos hK]
 refine⟨Bs,λm=>⟨[(1,.d (.str a)),(2,.ptr 2 0),(6,.d (.str m))],[(2,.box ((bu w).map .d))]⟩,λm=>bq m=true/\oe w.ai a ((cF m).length+1) m=oW w.ai a,λm=>(cF m).length,
  ⟨a,⟨hK,kd⟩,aK.keep⟩,λm ⟨hm,hD⟩=>?_⟩
 conv=>whnf
 rw[oe]at hD;refine aj (λh2=>?_) (λh2=>?_) <;> (rw[h2];conv=>whnf)
 .have hF:m≠[46]:=by intro e;simp[e]at h2
  rw[if_neg hF]at hD;have kT:=SI hm;have hlen:1<=(cF m).length:=by
   cases hl:cF m with
   |nil =>
    have:=oQ m;rw[hl]at this;exact absurd this.symm hF
   |cons a t=>simp
  (refine⟨_,_,OT m (by have:=fo hm;omega),?_⟩;conv=>whnf)
  refine⟨by decide,by(show(1:Int)<=((cF m).map ck).length;rw[aA];omega),by(show(((cF m).map ck).length:Int)<=((cF m).map ck).length;omega),?_⟩;conv=>whnf
  have e:(((cF m).map ck).drop (1:Int).toNat).take ((((cF m).map ck).length:Int).toNat-(1:Int).toNat)=((cF m).tail).map ck:=by
   rw[List.take_of_length_le (by simp),List.map_tail, <- List.drop_one];rfl
  rw[e]
  (refine⟨_,_,Sf (cF m).tail (by simp;omega) (λx hx=>by have:=NT hm x (List.mem_of_mem_tail hx);omega),?_⟩;conv=>whnf)
  have ki:=qS hm;have hV:(cF (dw m)).length+1=(cF m).length:=by rw[su hm,List.length_tail];omega
  have fC:=EU w.ai (dw m) hv hn;have kF:=ES w.ai (dw m);rw[<- hV]at hD;cases hc:gh w.ai (dw m)with
  |none =>
   rw[hc]at fC hD
   (refine⟨_,_,fC,?_⟩;conv=>whnf)
   exact⟨dw m,⟨ki,hD⟩,by(show(cF (dw m)).length<(cF m).length;omega),aK.keep⟩
  |some x =>
   obtain⟨k,p⟩:=x;rw[hc]at fC hD;have kf:=kF _ hc;dsimp only at kf hD
   (refine⟨_,_,fC,?_⟩;conv=>whnf)
   rw[show decide (Ln (some (k,p))<0)=false by(show decide ((k:Int)<0)=false);simp];conv=>whnf
   refine⟨aC k,aR p,aM kf,?_⟩;conv=>whnf
   (refine⟨_,_,Fo p.ah a 2 (by have:=(dz (hv p (aD kf))).1;omega),?_⟩;conv=>whnf)
   refine aj (λh3=>?_) (λh3=>?_) <;> (rw[h3];conv=>whnf)
   .rw[if_pos h3]at hD;refine al rfl ?_;rw[<- hD];rfl
   .rw[if_neg (by rw[h3];decide)]at hD;refine al rfl ?_;rw[<- hD];rfl
 .have hF:m=[46]:=by simpa using h2
  rw[if_pos hF]at hD;refine al rfl ?_;rw[<- hD];rfl
theorem eQ(z:aO)(s:Bs)(k l:Int)(d:List Datum):(bL z s k l d).af=z.af:=rfl
theorem oR{since aN:Int}{y z:aO}(h:db since aN y=some z):(wfR y y.af 4).2=true/\(pJ (kq (wfR y y.af 4).1).n).2=0/\(wfR (eS y) (eS y).af 7).2=true/\(dv (wfR (eS y) (eS y).af 7).1).2=0/\bf (eS y)=true/\(eV (eS y)).2=0 /\
 (iK (eV (eS y)).1 (dv (wfR (eS y) (eS y).af 7).1).1 since aN).2=0/\bf z=true/\z=(iK (eV (eS y)).1 (dv (wfR (eS y) (eS y).af 7).1).1 since aN).1:=by
 unfold db at h;split at h
 case isFalse=>cases h
 rename_i h1;split at h
 .cases h
 rename_i h2;unfold lW at h;split at h
 case isFalse=>cases h
 rename_i h3;split at h
 .cases h
 rename_i h4;split at h
 .cases h
 rename_i h5;split at h
 .cases h
 rename_i h6;cases h;simp only[Bool.or_eq_true,bne_iff_ne,ne_eq,Bool.not_eq_true',not_or,Decidable.not_not,Bool.not_eq_false]at h2 h4 h5 h6;exact⟨h1,h2,h3,h4.1,h4.2,h5,h6.1,h6.2,rfl⟩
theorem eA{since aN:Int}{y z:aO}(h:db since aN y=some z):z.af=y.af:=by
 obtain⟨_,_,_,_,h5,h6,h7,_,rfl⟩:=oR h;have hc:(eV (eS y)).1.af=y.af:=by
  unfold eV at h6 ⊢;split at h6
  .cases h6
  .rename_i g1;rw[if_neg g1];split at h6
   .rename_i g2;exact absurd h6 (by simpa using g2)
   .rename_i g2;rw[if_neg g2];split at h6
    .cases h6
    .rename_i g3;rw[if_neg g3];rfl
 unfold iK at h7 ⊢;split at h7
 .cases h7
 .rename_i g1;rw[if_neg g1];split at h7
  .cases h7
  .rename_i g2;rw[if_neg g2];split at h7
   .cases h7
   .rename_i g3;rw[if_neg g3];exact hc
structure gr(P:ao->Prop)(n:Nat)(o:bz):Prop where
 num:o.bp.length<=n
 st:∀s∈o.bp,s≠[]/\s.length<=2000/\ ∀p∈s,P p
theorem gr.fin{P:ao->Prop}{n:Nat}{o:bz}(h:gr P n o)(hl:o.aF.length<=2000)(hp:∀p∈o.aF,P p){o' :bz}(e:o'.bp=o.bp++(if o.aF=[]then[]else[o.aF])):gr P (n+1) o' :=by
 refine⟨?_,λs hs=>?_⟩
 .rw[e,List.length_append];have:=h.num;split <;> simp <;> omega
 .rw[e]at hs;rcases List.mem_append.1 hs with hs|hs
  .exact h.st s hs
  .split at hs
   .cases hs
   .rename_i hF;rw[List.mem_singleton.1 hs];exact⟨hF,hl,hp⟩
theorem gr.more{P:ao->Prop}{n m:Nat}{o:bz}(h:gr P n o)(kD:n<=m):gr P m o:=⟨Nat.le_trans h.num kD,h.st⟩
theorem gr.mono{P Q:ao->Prop}{n:Nat}{o:bz}(h:gr P n o)(hq:∀p,P p->Q p):gr Q n o:=⟨h.num,λs hs=>⟨(h.st s hs).1,(h.st s hs).2.1,λp hp=>hq p ((h.st s hs).2.2 p hp)⟩⟩
def lv(w:aZ)(m:Nat)(g:List (Bs×List Int)):Prop:= ∀a,(bW g a).length<=m/\ ∀n∈bW g a,bJ w n=true
theorem Jk(a b:Bs)(l:List Int):∀g:List (Bs×List Int),bW (cM b l g) a=if a=b then l else bW g a
 |[]=>by
  unfold bW cM bG;by_cases h:a=b
  .rw[if_pos h,if_pos h];rfl
  .rw[if_neg h,if_neg h];rfl
 |(k,v)::t=>by
  have ih:=Jk a b l t;unfold cM;by_cases hb:b=k
  .subst hb;rw[if_pos rfl];unfold bW bG;by_cases h:a=b
   .rw[if_pos h,if_pos h];rfl
   .rw[if_neg h,if_neg h,if_neg h]
  .rw[if_neg hb];unfold bW at ih ⊢;unfold bG;by_cases h:a=k
   .subst h;rw[if_pos rfl,if_neg (λe=>hb e.symm),if_pos rfl]
   .rw[if_neg h,if_neg h];exact ih
theorem xl{w:aZ}:∀(l:List ao) {g:List (Bs×List Int)} {m:Nat},lv w m g->(∀p∈l,bJ w p.host=true)->lv w (m+l.length) (dE w g l)
 |[],g,m,h,_=>h
 |p::t,g,m,h,hp=>by
  show lv w (m+(t.length+1)) (dE w (kv w g p) t)
  rw[show m+(t.length+1)=(m+1)+t.length by omega];refine xl t (λa=>?_) λq hq=>hp q (bC _ hq)
  unfold kv;split
  .rw[Jk];split
   .rename_i e;have h1:=h p.ah.af;refine⟨by simp;omega,λn hn=>?_⟩;rcases List.mem_append.1 hn with hn|hn
    .exact h1.2 n hn
    .rw[List.mem_singleton.1 hn];exact hp p (List.mem_cons_self ..)
   .exact⟨by have:=(h a).1;omega,(h a).2⟩
  .exact⟨by have:=(h a).1;omega,(h a).2⟩
theorem xm(w:aZ):lv w 0 []:=λa=>⟨Nat.le_refl _,λn hn=>by cases hn⟩
theorem Bh{o:bz}{z:aO}{m:Nat}(hw:∀p∈o.w.ai,bJ o.w p.host=true)(hg:lv o.w m o.got):(bT z o.w.ai++dL z (bW o.got z.af)).length<=o.w.ai.length+m/\ ∀p∈bT z o.w.ai++dL z (bW o.got z.af),p.ah=z/\bJ o.w p.host=true:=by
 refine⟨?_,λp hp=>?_⟩
 .have h1:=List.length_filter_le (λp:ao=>p.ah.af==z.af) o.w.ai;have h2:=(hg z.af).1;unfold bT dL;rw[List.length_append,aA,aA];omega
 .rcases List.mem_append.1 hp with hp|hp
  .unfold bT at hp;obtain⟨q,hq,rfl⟩:=List.mem_map.1 hp;exact⟨rfl,hw q (List.mem_filter.1 hq).1⟩
  .unfold dL at hp;obtain⟨n,hn,rfl⟩:=List.mem_map.1 hp;exact⟨rfl,(hg z.af).2 n hn⟩
def se(w:aZ)(A:List Bs)(p:ao):Prop:=bJ w p.host=true/\p.ah.af∈A
theorem Qu{o o2:bz}{x:bA}(h:rK o x=some o2)(hw:∀p∈o.w.ai,bJ o.w p.host=true)(hn:o.w.ai.length<=20)(hz:o.ah.af=x.ah)(hh:∀n∈x.ay,bJ o.w n=true)(hl:x.ay.length<=8)(hs:o.bp=[])(hg:o.got=[]) :
 gr (se o.w [x.ah,(cH o.w.ai x.ah).1.af]) 3 o2:=by
 unfold rK at h;split at h
 case isFalse=>cases h
 generalize cH o.w.ai x.ah=ab at h
 unfold tm at h;split at h
 .cases h
 rename_i z1 hZ;split at h
 .cases h
 rename_i z2 kl;cases h;have a1:z1.af=x.ah:=by rw[eA hZ];unfold tk;rw[iv,eQ];exact hz
 have a2:z2.af=ab.1.af:=by rw[eA kl];unfold tk;rw[iv,eQ]
 have ka:=Jj o x x.ay;have g0:∀p∈eE o x x.ay,se o.w [x.ah,ab.1.af] p:=λp hp=>by
  unfold eE at hp;obtain⟨n,hn,rfl⟩:=List.mem_map.1 hp;exact⟨hh n (List.mem_filter.1 hn).1,by rw[show(⟨n,o.ah⟩:ao).ah.af=o.ah.af from rfl,hz];exact List.mem_cons_self ..⟩
 have s0:gr (se o.w [x.ah,ab.1.af]) 0 {o with aF:=eE o x x.ay}:=⟨by rw[show({o with aF:=eE o x x.ay}:bz).bp=o.bp from rfl,hs];exact Nat.le_refl _,λs kt =>by rw[show({o with aF:=eE o x x.ay}:bz).bp=o.bp from rfl,hs]at kt;cases kt⟩
 have s1:=s0.fin (o' :=eH {o with aF:=eE o x x.ay}) (by(show(eE o x x.ay).length<=2000);omega) g0 rfl;have gk:lv o.w (0+(eE o x x.ay).length) (eH {o with aF:=eE o x x.ay}).got:=by
  show lv o.w _ (dE o.w o.got (eE o x x.ay))
  rw[hg];exact xl _ (xm _) λp hp=>(g0 p hp).1
 obtain⟨l1,p1⟩:=Bh (o:=eH {o with aF:=eE o x x.ay}) (z:=z1) hw gk;obtain⟨l2,p2⟩:=Bh (o:=aS (eH {o with aF:=eE o x x.ay}) z1) (z:=z2) hw gk;have ew:(eH {o with aF:=eE o x x.ay}).w=o.w:=rfl;have kz:(aS (eH {o with aF:=eE o x x.ay}) z1).w=o.w:=rfl;rw[ew]at l1 p1;rw[kz]at l2 p2;have ep:(aS (aS (eH {o with aF:=eE o x x.ay}) z1) z2).aF=(bT z1 o.w.ai++dL z1 (bW (eH {o with aF:=eE o x x.ay}).got z1.af))++(bT z2 o.w.ai++dL z2 (bW (aS (eH {o with aF:=eE o x x.ay}) z1).got z2.af)):=by
  show(([]++bT z1 _++dL z1 _)++bT z2 _++dL z2 _)=_
  simp[List.append_assoc];rfl
 have s2:=gr.fin (o:=aS (aS (eH {o with aF:=eE o x x.ay}) z1) z2) (o' :=cy (aS (aS (eH {o with aF:=eE o x x.ay}) z1) z2)) ⟨s1.num,s1.st⟩ (by rw[ep,List.length_append];omega) (λp hp=>by
  rw[ep]at hp;rcases List.mem_append.1 hp with hp|hp
  .obtain⟨e1,e2⟩:=p1 p hp;exact⟨e2,by rw[e1,a1];exact List.mem_cons_self ..⟩
  .obtain⟨e1,e2⟩:=p2 p hp;exact⟨e2,by rw[e1,a2];simp⟩) rfl
 have kj:=GA x o.w.ai;refine gr.fin (o:={cy (aS (aS (eH {o with aF:=eE o x x.ay}) z1) z2)with aF:=gT x o.w.ai}) (n:=2) ⟨s2.num,s2.st⟩ (by(show(gT x o.w.ai).length<=2000);omega) (λp hp=>?_) rfl;have hp:p∈gT x o.w.ai:=hp;unfold gT at hp;obtain⟨q,hq,rfl⟩:=List.mem_map.1 hp;exact⟨hw q (List.mem_filter.1 hq).1,List.mem_cons_self ..⟩
theorem pW{o:bz}{z:aO}{P:ao->Prop}{n m:Nat}(h:gr P n o)(hU:o.aF=[])(hw:∀p∈o.w.ai,bJ o.w p.host=true)(hg:lv o.w m o.got)(hm:o.w.ai.length+m<=2000)(hP:∀p:ao,p.ah=z->bJ o.w p.host=true->P p):gr P (n+1) (cy (aS o z)):=by
 obtain⟨l1,p1⟩:=Bh (o:=o) (z:=z) hw hg;have ep:(aS o z).aF=bT z o.w.ai++dL z (bW o.got z.af):=by
  show o.aF++bT z _++dL z _=_
  rw[hU,List.nil_append]
 refine gr.fin (o:=aS o z) (o' :=cy (aS o z)) ⟨h.num,h.st⟩ (by rw[ep];omega) (λp hp=>?_) rfl;rw[ep]at hp;exact hP p (p1 p hp).1 (p1 p hp).2
theorem Cn{P:ao->Prop}{o:bz}(h:o.bp=[]):gr P 0 o:=⟨by rw[h];exact Nat.le_refl _,λs hs=>by rw[h]at hs;cases hs⟩
theorem Qk{o o2:bz}{x:bA}(h:mQ o x=some o2)(hw:∀p∈o.w.ai,bJ o.w p.host=true)(hn:o.w.ai.length<=20)(hz:o.ah.af=x.ah)(hs:o.bp=[])(hU:o.aF=[])(hg:o.got=[]) :
 gr (se o.w [x.ah,(cH o.w.ai x.ah).1.af]) 3 o2:=by
 unfold mQ at h;split at h
 case isFalse=>cases h
 generalize cH o.w.ai x.ah=ab at h
 unfold wg at h;split at h
 case isFalse=>cases h
 split at h
 .cases h
 rename_i z hZ;unfold nO at h;split at h
 case isFalse=>cases h
 split at h
 .cases h
 rename_i z2 kl;unfold tc at h;split at h
 .cases h
 rename_i z3 kQ;cases h;have a1:z.af=x.ah:=by rw[eA hZ,eQ];exact hz
 have a2:z2.af=ab.1.af:=by rw[eA kl,eQ]
 have a3:z3.af=x.ah:=by rw[eA kQ,eQ];exact a1
 have g:lv o.w 0 o.got:=by rw[hg];exact xm _
 have s1:=pW (z:=z) (Cn (P:=se o.w [x.ah,ab.1.af]) hs) hU hw g (by omega) λp e1 e2=>⟨e2,by rw[e1,a1];exact List.mem_cons_self ..⟩
 have s2:=pW (z:=z2) s1 rfl hw g (by(show o.w.ai.length+0<=2000);omega) λp e1 e2=>⟨e2,by rw[e1,a2];simp⟩
 exact pW (z:=z3) s2 rfl hw g (by(show o.w.ai.length+0<=2000);omega) λp e1 e2=>⟨e2,by rw[e1,a3];exact List.mem_cons_self ..⟩
theorem Oq{o o2:bz}{x:bA}(h:rh o x=some o2)(hw:∀p∈o.w.ai,bJ o.w p.host=true)(hn:o.w.ai.length<=20)(hz:o.ah.af=x.ah)(hh:∀n∈x.ay,bJ o.w n=true)(hl:x.ay.length<=8)(hs:o.bp=[])(hU:o.aF=[])(hg:o.got=[]) :
 gr (se o.w [x.ah,x.name]) 2 o2:=by
 unfold rh at h;split at h
 case isFalse=>cases h
 split at h
 .cases h
 rename_i part kK;unfold qv qw at h;split at h
 .cases h
 rename_i z hZ;cases h;have a0:part.af=x.name:=by
  rw[eA kK];unfold RU;rw[iv];rfl
 have a1:z.af=x.ah:=by
  rw[eA hZ];unfold Gw;rw[iv];exact hz
 have g0:∀p∈dZ part x.ay,se o.w [x.ah,x.name] p:=λp hp=>by
  unfold dZ at hp;obtain⟨n,hn,rfl⟩:=List.mem_map.1 hp;exact⟨hh n hn,by rw[show(⟨n,part⟩:ao).ah.af=part.af from rfl,a0];simp⟩
 have hV:(dZ part x.ay).length=x.ay.length:=by unfold dZ;rw[aA]
 have s1:=gr.fin (o:={o with aF:=dZ part x.ay}) (o' :=eH {o with aF:=dZ part x.ay}) (Cn (P:=se o.w [x.ah,x.name]) hs) (by(show(dZ part x.ay).length<=2000);omega) g0 rfl;have gk:lv o.w (0+(dZ part x.ay).length) (eH {o with aF:=dZ part x.ay}).got:=by
  show lv o.w _ (dE o.w o.got (dZ part x.ay))
  rw[hg];exact xl _ (xm _) λp hp=>(g0 p hp).1
 exact pW (o:=eH {o with aF:=dZ part x.ay}) (z:=z) s1 rfl hw gk (by(show o.w.ai.length+_<=2000);omega) λp e1 e2=>⟨e2,by rw[e1,a1];exact List.mem_cons_self ..⟩
theorem yE{o:bz}{x:bA}{ad:Datum}{m:Nat}(hw:∀p∈o.w.ai,bJ o.w p.host=true)(hg:lv o.w m o.got):∀(l:List Bs) {ps qs:List ao},mh o x ad l ps=some qs->(∀p∈ps,bJ o.w p.host=true)->qs.length<=ps.length+l.length*(o.w.ai.length+m)/\ ∀p∈qs,bJ o.w p.host=true
 |[],ps,qs,h,hp=>by
  unfold mh at h;cases h;exact⟨by simp,hp⟩
 |a::t,ps,qs,h,hp=>by
  unfold mh at h;split at h
  .split at h
   .cases h
   .rename_i z hz;obtain⟨l1,p1⟩:=Bh (o:=o) (z:=z) hw hg;have:=yE hw hg t h (λp hS =>by
     simp only[List.append_assoc]at hS;rcases List.mem_append.1 hS with hS |hS
     .exact hp p hS
     .exact(p1 p hS).2)
    refine⟨?_,this.2⟩;have h1:=this.1;simp only[List.length_append,List.length_cons,Nat.add_mul]at h1 l1 ⊢;omega
  .have:=yE hw hg t h hp;refine⟨?_,this.2⟩;have h1:=this.1;simp only[List.length_cons,Nat.add_mul];omega
theorem OX{o o2:bz}{x:bA}{host:Int}(h:tK o x host=some o2)(hw:∀p∈o.w.ai,bJ o.w p.host=true)(hn:o.w.ai.length<=20)(hh:bJ o.w host=true)(hs:o.bp=[])(hU:o.aF=[])(hg:o.got=[]) :
 gr (λp=>bJ o.w p.host=true) 3 o2:=by
 unfold tK at h;split at h
 case isFalse=>cases h
 unfold En at h;generalize ka:eZ o host (dG (λp=>(oD (wfR o.ah x.name 1).1.data host 0 o.w.ay).contains p.host) o.w.ai)=gl at h;generalize oD (wfR o.ah x.name 1).1.data host 0 o.w.ay=om at h ka;have kC:gl.length<=20:=by
  rw[<- ka];have:=Fz o host (dG (λp=>om.contains p.host) o.w.ai);have:=oi (λp=>om.contains p.host) o.w.ai;omega
 have g0:∀p∈gl,bJ o.w p.host=true:=λp hp=>by
  rw[<- ka]at hp;unfold eZ at hp;obtain⟨n,hn,rfl⟩:=List.mem_map.1 hp;exact hh
 unfold ve at h;split at h
 .cases h
 rename_i ps kJ;cases h;have s1:=gr.fin (o:={o with aF:=gl}) (o' :=eH {o with aF:=gl}) (Cn (P:=λp=>bJ o.w p.host=true) hs) (by(show gl.length<=2000);omega) g0 rfl;have gk:lv o.w (0+gl.length) (eH {o with aF:=gl}).got:=by
  show lv o.w _ (dE o.w o.got gl)
  rw[hg];exact xl _ (xm _) g0
 have hV:=yE (o:=eH {o with aF:=gl}) hw gk _ kJ (λp hp=>by cases hp);have kS:=oi (λ_=>true) o.w.ai;have hlen:ps.length<=2000:=by
  have h1:=hV.1;have h2:(dG (λ_=>true) (eH {o with aF:=gl}).w.ai).length*((eH {o with aF:=gl}).w.ai.length+(0+gl.length))<=20*40:=Nat.mul_le_mul (by(show(dG (λ_=>true) o.w.ai).length<=20);omega) (by(show o.w.ai.length+(0+gl.length)<=40);omega);simp only[List.length_nil]at h1;omega
 have s2:=gr.fin (o:={eH {o with aF:=gl}with aF:=ps}) (o' :=cy {eH {o with aF:=gl}with aF:=ps}) ⟨s1.num,s1.st⟩ hlen hV.2 rfl;have kj:=Di om o.w.ai;refine gr.fin (o:={cy {eH {o with aF:=gl}with aF:=ps}with aF:=iV om o.w.ai}) ⟨s2.num,s2.st⟩ (by(show(iV om o.w.ai).length<=2000);omega) (λp hp=>?_) rfl;have hp:p∈iV om o.w.ai:=hp;unfold iV at hp;obtain⟨q,hq,rfl⟩:=List.mem_map.1 hp;exact hw q (List.mem_filter.1 hq).1
theorem Qa{w:aZ}{n:Int}(h1:0<=n)(h2:n<(w.ay.length:Int)):bJ w n=true:=by
 unfold bJ;simp[h1,h2]
theorem JI{w:aZ}{x:bA}{since aN:Int}{o:bz}(h:nf w x since aN=some o)(kO:fm w=true)(hx:fQ w x=true)(hn:w.ai.length<=20) :
 gr (λp=>bJ w p.host=true) 3 o/\(x.kind=1\/x.kind=2->gr (se w [x.ah,(cH w.ai x.ah).1.af]) 3 o)/\(x.kind=4->gr (se w [x.ah,x.name]) 3 o)/\(x.kind=1\/x.kind=2->(cH w.ai x.ah).2=true)/\(x.kind=1\/x.kind=2\/x.kind=3\/x.kind=4):=by
 have hw:∀p∈w.ai,bJ w p.host=true:=λp hp=>by
  obtain⟨_,h1,h2⟩:=gN kO p hp;exact Qa h1 h2
 unfold fQ at hx;simp only[aU,Bool.not_eq_true',Bool.or_eq_false_iff,Bool.not_eq_false']at hx;obtain⟨_,hc,hk⟩:=hx;have km:(bS w.ai x.ah).1.af=x.ah:=by
  rcases eW w.ai x.ah with ⟨p,hp,e,ea⟩|⟨e,_⟩
  .rw[e];exact ea
  .rw[e]at hc;cases hc
 unfold nf at h;split at h
 case isFalse=>cases h
 unfold uk at h;unfold kA at hk;by_cases k1:x.kind=1
 .rw[if_pos k1]at h;rw[if_pos k1,aU]at hk;obtain⟨hl,hT,hh⟩:=nM hk.2;have kc:(cH w.ai x.ah).2=true:=by
   unfold rK at h;split at h
   .assumption
   .cases h
  have:=Qu h hw hn km hh hl rfl rfl;exact⟨this.mono λp hp=>hp.1,λ_=>this,λe=>by omega,λ_=>kc,.inl k1⟩
 rw[if_neg k1]at h hk;by_cases k2:x.kind=2
 .rw[if_pos k2]at h;have kc:(cH w.ai x.ah).2=true:=by
   unfold mQ at h;split at h
   .assumption
   .cases h
  have:=Qk h hw hn km rfl rfl rfl;exact⟨this.mono λp hp=>hp.1,λ_=>this,λe=>by omega,λ_=>kc,.inr (.inl k2)⟩
 rw[if_neg k2]at h hk;by_cases k3:x.kind=3
 .rw[if_pos k3]at h;rw[if_pos k3,aU]at hk;obtain⟨host,kb,ke⟩:∃host,x.ay=[host]/\bJ w host=true:=by
   have h1:=hk.2;unfold qQ at h1;split at h1
   .rename_i n e;exact⟨n,e,h1⟩
   .cases h1
  have e:Al x=host:=by unfold Al;rw[kb]
  rw[e]at h;have:=OX h hw hn ke rfl rfl rfl;exact⟨this,λe=>by omega,λe=>by omega,λe=>by omega,.inr (.inr (.inl k3))⟩
 rw[if_neg k3]at h hk;by_cases k4:x.kind=4
 .rw[if_pos k4]at h;rw[if_pos k4,aU,aU]at hk;obtain⟨hl,hT,hh⟩:=nM hk.1.2;have:=Oq h hw hn km hh hl rfl rfl rfl;exact⟨(this.mono λp hp=>hp.1).more (by decide),λe=>by omega,λ_=>this.more (by decide),λe=>by omega,.inr (.inr (.inr k4))⟩
 rw[if_neg k4]at hk;cases hk
theorem uF{z:aO}(hv:bf z=true):cN z=fP z:=by
 have ho:=bQ hv;obtain⟨k,s,hk,hs,hp⟩:=RE (xI.1 hv).start;unfold cN fP;rw[Mv ho.rising.pw hs hp,hs,yQ];unfold atI at hk;cases hf:z.ak.findIdx? (is ⟨z.af,4⟩)with
 |none=>rw[hf]at hk;dsimp only at hk;omega
 |some i =>
  rw[hf]at hk;have:i=k:=by dsimp only at hk;omega
  subst this;dsimp only;rw[hs];cases hd:s.set.data <;> simp[hd]
theorem zQ{p q:ao}(hp:bf p.ah=true)(hq:bf q.ah=true):(vr q p<0) ↔ kR p q=true:=by
 unfold vr;rw[yk hp hq,uF hp,uF hq];unfold dA;simp only[Bool.or_eq_true,aU,decide_eq_true_eq];split <;> split <;> (try split) <;> (try split) <;> (try split) <;> omega
theorem EF(a:Bs):∀(l:List ao) (i:Nat) (b:Option (Nat×ao)),(∀p∈l,bf p.ah=true)->(∀x,b=some x->bf x.2.ah=true)->lz a b i l=jP (λp=>p.ah.af==a) kR i l b
 |[],i,b,_,_=>rfl
 |p::t,i,b,hl,hb=>by
  have hp:=hl p (List.mem_cons_self ..);have e:mi a b i p=fD (λp=>p.ah.af==a) kR i p b:=by
   unfold mi fD;by_cases h:p.ah.af=a
   .rw[if_neg (by simp[h]),if_pos (by simp[h])];cases b with
    |none=>rfl
    |some x =>
     obtain⟨j,q⟩:=x;have hq:=hb _ rfl;dsimp only;by_cases hc:vr q p<0
     .rw[if_pos hc,if_pos ((zQ hp hq).1 hc)]
     .rw[if_neg hc,if_neg (λh=>hc ((zQ hp hq).2 h))]
   .rw[if_pos (by simp[h]),if_neg (by simp[h])]
  show lz a (mi a b i p) (i+1) t=jP _ kR (i+1) t (fD (λp=>p.ah.af==a) kR i p b)
  rw[<- e];refine EF a t (i+1) _ (λq hq=>hl q (bC _ hq)) λx hx=>?_
  unfold mi at hx;split at hx
  .exact hb x hx
  .split at hx
   .cases hx;exact hp
   .split at hx
    .cases hx;exact hp
    .cases hx;exact hb _ rfl
theorem tT{zs:List ao}(hv:∀p∈zs,bf p.ah=true)(a:Bs):tS zs a=gh zs a:=EF a zs 0 none hv λx hx=>by cases hx
theorem Cs(a:Bs):∀(l:List ao) (i:Nat) (b x:Option (Nat×ao)),(∀y,b=some y->y.2.ah.af=a)-> ∀y,jP (λp=>p.ah.af==a) kR i l b=some y->y.2.ah.af=a
 |[],i,b,_,hb,y,h=>hb y h
 |p::t,i,b,x,hb,y,h=>by
  refine Cs a t (i+1) _ x (λz hz=>?_) y h;split at hz
  .rename_i hp;split at hz
   .cases hz;simpa using hp
   .split at hz
    .cases hz;simpa using hp
    .exact hb z hz
  .exact hb z hz
theorem ej{zs:List ao}{a:Bs}{k:Nat}{p:ao}(h:gh zs a=some (k,p)):zs[k]? =some p/\p.ah.af=a:=⟨ES zs a _ h,Cs a zs 0 none none (λy hy=>by cases hy) _ h⟩
theorem zX{zs:List ao}{a:Bs}(h:gh zs a=none):∀p∈zs,p.ah.af≠a:=λp hp e=>by
 have:=((Ct zs 0 none).1 h).2 p hp;simp[e]at this
theorem Jb{zs:List ao}(hv:∀p∈zs,bf p.ah=true){a:Bs}{k:Nat}{p:ao}(h:gh zs a=some (k,p)):bS zs a=(p.ah,true):=by
 unfold bS;rw[tT hv,h]
theorem LW{n a b:Bs}(ha:bE n a=true)(hb:bE n b=true):bE a b=true\/bE b a=true:=by
 unfold bE at *
 rw[List.isSuffixOf_iff_suffix]at ha hb ⊢;rw[List.isSuffixOf_iff_suffix];rcases List.suffix_or_suffix_of_suffix ha hb with h|h
 .exact .inr h
 .exact .inl h
def tF(af a:Bs)(l:List ao):Prop:=(∃p∈l,p.ah.af=a)/\a≠af/\bE af a=true/\ ∀p∈l,p.ah.af≠af->bE af p.ah.af=true->bE a p.ah.af=true
theorem tG{af:Bs}(hK:bq af=true):∀(l:List ao),(∀p∈l,bq p.ah.af=true)-> ∀(pre:List ao) (x:Bs×Bool),(∀p∈pre,bq p.ah.af=true) ->
 (x.2=true->tF af x.1 pre)->(x.2=false-> ∀p∈pre,p.ah.af≠af->bE af p.ah.af=false) ->
 ((l.foldl (ji af) x).2=true->tF af (l.foldl (ji af) x).1 (pre++l))/\((l.foldl (ji af) x).2=false-> ∀p∈pre++l,p.ah.af≠af->bE af p.ah.af=false)
 |[],_,pre,x,_,h1,h2=>by
  rw[List.append_nil];exact⟨h1,h2⟩
 |p::t,hl,pre,x,hpre,h1,h2=>by
  have hp:=hl p (List.mem_cons_self ..);have hu:(bK af p.ah.af).1=bE af p.ah.af:=by unfold bK;rw[if_pos ⟨hK,hp⟩]
  have e:pre++p::t=(pre++[p])++t:=by simp
  rw[e,List.foldl_cons];refine tG hK t (λq hq=>hl q (bC _ hq)) (pre++[p]) (ji af x p) (λq hq=>?_) (λhx=>?_) λhx=>?_
  .rcases List.mem_append.1 hq with hq|hq
   .exact hpre q hq
   .rw[List.mem_singleton.1 hq];exact hp
  .unfold ji at hx ⊢;rw[hu]at hx ⊢;split at hx
   .rename_i hc;rw[if_pos hc];simp only[aU,bne_iff_ne,ne_eq,Bool.or_eq_true,Bool.not_eq_true']at hc;refine⟨⟨p,List.mem_append.2 (.inr (List.mem_cons_self ..)),rfl⟩,hc.1.1,hc.1.2,λq hq hG hI=>?_⟩;rcases List.mem_append.1 hq with hq|hq
    .rcases hc.2 with hf|hf
     .rw[h2 hf q hq hG]at hI;cases hI
     .cases hx2:x.2 with
      |false=>rw[h2 hx2 q hq hG]at hI;cases hI
      |true =>
       obtain⟨⟨y,hy,ey⟩,_,_,h4⟩:=h1 hx2;have kk:bq x.1=true:=by rw[<- ey];exact hpre y hy
       have:bE p.ah.af x.1=true:=by
        unfold bK at hf;rw[if_pos ⟨hp,kk⟩]at hf;exact hf
       exact yv this (h4 q hq hG hI)
    .rw[List.mem_singleton.1 hq];exact sJ _
   .rename_i hc;rw[if_neg hc];obtain⟨⟨y,hy,ey⟩,g2,g3,g4⟩:=h1 hx;refine⟨⟨y,List.mem_append.2 (.inl hy),ey⟩,g2,g3,λq hq hG hI=>?_⟩;rcases List.mem_append.1 hq with hq|hq
    .exact g4 q hq hG hI
    .rw[List.mem_singleton.1 hq]at hG hI ⊢;have kk:bq x.1=true:=by rw[<- ey];exact hpre y hy
     have kg:bE p.ah.af x.1=false:=by
      cases h:bE p.ah.af x.1 with
      |false=>rfl
      |true =>
       exfalso
       refine hc ?_;have:(bK p.ah.af x.1).1=true:=by unfold bK;rw[if_pos ⟨hp,kk⟩];exact h
       rw[this,hI];simp[hG]
     rcases LW g3 hI with h|h
     .exact h
     .rw[kg]at h;cases h
  .unfold ji at hx;rw[hu]at hx;split at hx
   .cases hx
   .rename_i hc;intro q hq hG;rcases List.mem_append.1 hq with hq|hq
    .exact h2 hx q hq hG
    .rw[List.mem_singleton.1 hq]at hG ⊢;cases h:bE af p.ah.af with
     |false=>rfl
     |true =>
      exfalso
      refine hc ?_;rw[h,hx];simp[hG]
theorem xO{zs:List ao}{af a:Bs}(hv:∀p∈zs,bf p.ah=true)(ht:tF af a zs):∀(f:Nat) (m:Bs),bq m=true->bE af m=true->bE m a=true->m≠a->(cF m).length<f ->
 ∃k p,gh zs a=some (k,p)/\oe zs af f m=if (wfR p.ah af 2).2=true then(k:Int)else -1
 |0,m,_,_,_,_,hf=>by omega
 |f+1,m,hm,hum,hma,hF,hf=>by
  obtain⟨k1,k2,k3⟩:=GK hm hma hF;obtain⟨⟨y,hy,ey⟩,g2,g3,g4⟩:=ht;have ki:=qS hm;rw[oe,if_neg k1];have ku:bE af (dw m)=true:=yv hum (wv hm);by_cases kh:dw m=a
  .rw[kh];cases hc:gh zs a with
   |none=>exact absurd ey (zX hc y hy)
   |some x =>
    obtain⟨k,p⟩:=x;exact⟨k,p,rfl,rfl⟩
  .cases hc:gh zs (dw m)with
   |some x =>
    exfalso
    obtain⟨k,p⟩:=x;obtain⟨e1,e2⟩:=ej hc;have kH:=aD e1;have kI:p.ah.af≠af:=λe=>by
     rw[e2]at e;have h1:bE (dw m) m=true:=by rw[e];exact hum
     have h2:=uR h1 (wv hm);rw[h2]at k3;omega
    have:=g4 p kH kI (by rw[e2];exact ku);rw[e2]at this;exact kh (uR k2 this)
   |none=>exact xO hv ⟨⟨y,hy,ey⟩,g2,g3,g4⟩ f (dw m) ki ku k2 kh (by omega)
theorem Mj{zs:List ao}{af:Bs}(hv:∀p∈zs,bf p.ah=true)(hK:bq af=true)(h:(cH zs af).2=true):∃(k:Nat) (p:ao),oW zs af=k/\zs[k]? =some p/\(cH zs af).1=p.ah:=by
 have kN:∀p∈zs,bq p.ah.af=true:=λp hp=>(bQ (hv p hp)).af
 have hX:=(tG hK zs kN [] ([],false) (λp hp=>by cases hp) (λh=>by cases h) (λ_ p hp=>by cases hp)).1;rw[List.nil_append]at hX;unfold cH at h ⊢;split at h
 case isFalse=>cases h
 rename_i h1;rw[if_pos h1];have ht:=hX h1;split at h
 case isFalse=>cases h
 rename_i h2;rw[if_pos h2];have kM:bE af (dO af zs).1=true:=ht.2.2.1;obtain⟨k,p,hc,hg⟩:=xO hv ht ((cF af).length+1) af hK (sJ _) kM (λe=>ht.2.1 e.symm) (by omega);have kB:=Jb hv hc;have e1:(dO af zs).1=(List.foldl (ji af) ([],false) zs).1:=rfl;rw[e1]at h2 ⊢;rw[kB]at h2 ⊢;dsimp only at h2;rw[if_pos h2]at hg;refine⟨k,p,?_,(ej hc).1,rfl⟩;unfold oW;rw[if_pos hK];exact hg
theorem vZ{s:Bs}{k:Int}{x:Signed}:isF s k x=true ↔ x.place=(s,k):=by
 unfold isF Signed.place;simp
theorem yK{s:Bs}{k:Int}:∀{l:List Signed},RP l->l.countP (isF s k)<=1
 |[],_=>by simp
 |x::t,h=>by
  obtain⟨h1,h2⟩:=List.pairwise_cons.1 h;rw[List.countP_cons];split
  .rename_i hx;have:t.countP (isF s k)=0:=by
    rw[List.countP_eq_zero];exact λy hy hk=>MN (h1 y hy) ((vZ.1 hx).trans (vZ.1 hk).symm)
   omega
  .have:=yK (s:=s) (k:=k) h2;omega
theorem Fl{p:Signed->Bool}:∀{l:List Signed} {x:Signed},l.countP p<=1->x∈l->p x=true->l.find? p=some x
 |[],_,_,hm,_=>by cases hm
 |y::t,x,h,hm,hp=>by
  rw[List.countP_cons]at h;by_cases hy:p y=true
  .rw[if_pos hy]at h;have h0:t.countP p=0:=by omega
   rw[List.find?_cons,hy];rcases List.mem_cons.1 hm with e|hm
   .rw[e]
   .exact absurd hp (List.countP_eq_zero.1 h0 x hm)
  .rw[List.find?_cons,show p y=false by simpa using hy];rcases List.mem_cons.1 hm with e|hm
   .rw[e]at hp;exact absurd hp hy
   .exact Fl (by omega) hm hp
theorem Fp{p:Signed->Bool}{x:Signed}(hx:p x=false):∀{l:List Signed} {i:Nat} {y:Signed},l[i]? =some y->p y=false->(l.set i x).find? p=l.find? p
 |y::t,0,z,h,hz=>by
  have h:y=z:=by simpa using h
  rw[List.set_cons_zero,List.find?_cons,List.find?_cons,hx,h,hz]
 |y::t,i+1,z,h,hz=>by
  rw[List.set_cons_succ,List.find?_cons,List.find?_cons,Fp hx (by simpa using h) hz]
theorem MS{l:List Signed}{x:Signed}{h:Nat}(e:tX l x h=true):∃y,l[h]? =some y/\y.set.type=x.set.type:=by
 unfold tX at e;split at e
 .rename_i y hy;refine⟨y,hy,?_⟩;unfold wE dA at e;rw[beq_iff_eq]at e;split at e
  .split at e
   .cases e
   .split at e
    .cases e
    .omega
  .contradiction
 .cases e
theorem vi(z:aO)(s:Bs)(k aP:Int)(d:List Datum):(∃i y,z.ak[i]? =some y/\y.set.type=k/\(bL z s k aP d).ak=z.ak.set i (eM z s k aP d))\/ ∃i,(bL z s k aP d).ak=z.ak.take i++[eM z s k aP d]++z.ak.drop i:=by
 by_cases h:tX z.ak (eM z s k aP d) (bsW z.ak (eM z s k aP d))=true
 .obtain⟨y,hy,ht⟩:=MS h;exact .inl ⟨_,y,hy,ht,by unfold bL;rw[if_pos h]⟩
 .exact .inr ⟨_,by unfold bL;rw[if_neg h]⟩
theorem IT(z:aO)(s:Bs)(k aP:Int)(d:List Datum):isF s k (eM z s k aP d)=true:=vZ.2 rfl
theorem IU(z:aO)(s:Bs)(k aP:Int)(d:List Datum):eM z s k aP d∈(bL z s k aP d).ak:=by
 rcases vi z s k aP d with ⟨i,y,h,_,e⟩|⟨i,e⟩
 .rw[e];exact List.mem_set (aB.1 h).1 _
 .rw[e];simp
theorem EE(z:aO)(s:Bs){k:Int}(aP:Int)(d:List Datum)(s' :Bs){k' :Int}(hk:k' ≠k):wfR (bL z s k aP d) s' k' =wfR z s' k' :=by
 have hx:isF s' k' (eM z s k aP d)=false:=by
  unfold isF eM;simp[Ne.symm hk]
 unfold wfR mn;rcases vi z s k aP d with ⟨i,y,h,ht,e⟩|⟨i,e⟩
 .rw[e,Fp hx h (by unfold isF;simp[ht,Ne.symm hk])]
 .rw[e,List.append_assoc,List.find?_append,List.find?_append,List.find?_singleton,hx];conv=>rhs;rw[<- List.take_append_drop i z.ak,List.find?_append]
  rfl
theorem Pj{z:aO}(s:Bs){k:Int}(aP:Int)(d:List Datum){x:Signed}(hx:x∈z.ak)(hk:x.set.type≠k):x∈(bL z s k aP d).ak:=by
 rcases vi z s k aP d with ⟨i,y,h,ht,e⟩|⟨i,e⟩
 .rw[e];obtain⟨j,hj⟩:=cQ hx;refine aD (i:=j) ?_;rw[List.getElem?_set_ne,hj];rintro rfl;rw[h]at hj;cases hj;exact hk ht
 .rw[e];rw[<- List.take_append_drop i z.ak]at hx;rcases List.mem_append.1 hx with hx|hx <;> simp[hx]
theorem JS{z:aO}{s:Bs}{k:Int}{x:Signed}(h:z.ak.countP (isF s k)<=1)(hx:x∈z.ak)(hp:isF s k x=true):wfR z s k=(x.set,true):=by
 unfold wfR mn;rw[Fl h hx hp]
theorem Lc{z:aO}{ns:List Bs}{y:cG}(h:y∈ie z ns):y.type=8:=by
 unfold ie at h;obtain⟨i,_,rfl⟩:=List.mem_map.1 h;rfl
theorem qi{p:Signed->Bool}:∀(l:List Signed) (nx:List cG) (acc:List Signed),(∀y∈nx,p ⟨y,[]⟩=false)->(iA l nx acc).find? p=(acc++l).find? p
 |[],nx,acc,_=>by rw[Dq,List.append_nil]
 |s::t,nx,acc,h=>by
  rw[Bw];split
  .rw[qi t nx _ h,List.append_assoc];rfl
  .split
   .rw[qi t nx.tail _ λy hy=>h y (List.mem_of_mem_tail hy)];cases nx with
    |nil=>simp
    |cons y nx =>
     have:=h y (List.mem_cons_self ..);simp only[List.tail_cons,List.find?_append,List.append_assoc,List.find?_cons,List.find?_nil,this,List.cons_append,List.nil_append]
   .rw[qi t nx _ h,List.append_assoc];rfl
theorem Cw{z:aO}(h:(eV z).2=0)(s:Bs){k:Int}(hk:k≠8):wfR (eV z).1 s k=wfR z s k:=by
 unfold eV at h ⊢;split at h
 .cases h
 rename_i g1;rw[if_neg g1];split at h
 .rename_i g2;exact absurd h (by simpa using g2)
 rename_i g2;rw[if_neg g2];split at h
 .cases h
 rename_i g3;rw[if_neg g3];dsimp only;unfold wfR mn;dsimp only;rw[qi _ _ _ λy hy=>by
  have:y.type=8:=Lc hy;unfold isF;simp[this,Ne.symm hk],List.nil_append]
 have:∀l:List Signed,(l.filter lg).find? (isF s k)=l.find? (isF s k):=λl=>by
  rw[List.find?_filter]
  congr 1
  funext x
  unfold lg isF;by_cases hx:x.set.type=k
  .rw[hx,show(k != 8)=true by simp[hk]];cases (x.set.name==s&&k==k) <;> rfl
  .simp[hx]
 unfold fe;rw[this]
theorem Db(af:Bs)(K:List cR)(a b:Int)(s:Bs)(k:Int):∀(os:List Bool) (l:List Signed),os.length=l.length->((gE af K a b os l).find? (isF s k)).map (·.set)=(l.find? (isF s k)).map (·.set)
 |[],[],_=>rfl
 |o::os,x::t,h=>by
  have e:isF s k (xE af K a b o x)=isF s k x:=rfl;rw[gE,List.find?_cons,List.find?_cons,e];cases isF s k x with
  |true=>rfl
  |false=>exact Db af K a b s k os t (by simpa using h)
theorem JR(z:aO)(s:Bs)(k:Int):wfR z s k=match (z.ak.find? (isF s k)).map (·.set)with|some x=>(x,true)|none=>(pq,false):=by
 unfold wfR mn;cases z.ak.find? (isF s k) <;> rfl
theorem Gs(z:aO)(K:List cR)(a b:Int)(s:Bs)(k:Int):wfR (jJ z K a b) s k=wfR z s k:=by
 rw[JR,JR];have:=Db z.af K a b s k (lU z) z.ak (rQ _ _ _);unfold jJ;dsimp only;rw[this]
theorem AZ(af:Bs)(K:List cR)(a b:Int):∀(os:List Bool) (l:List Signed),os.length=l.length->(gE af K a b os l).map (·.set)=l.map (·.set)
 |[],[],_=>rfl
 |o::os,x::t,h=>by
  rw[gE,List.map_cons,List.map_cons,AZ af K a b os t (by simpa using h)];rfl
theorem Gf(isC isC' :Bs->Bool)(hC:∀s,isC s=isC' s):∀(c:Bs) (l l' :List Signed),l.map (·.set)=l'.map (·.set)->lB isC c l=lB isC' c l'
 |_,[],[],_=>rfl
 |c,x::t,y::t',h=>by
  simp only[List.map_cons,List.cons.injEq]at h;have e:gy isC c x=gy isC' c y:=by unfold gy;rw[h.1,hC]
  have e2:∀cc,sA cc x=sA cc y:=λcc=>by unfold sA;rw[h.1]
  rw[lB,lB,e,e2,Gf isC isC' hC _ t t' h.2]
 |_,[],_::_,h=>by cases h
 |_,_::_,[],h=>by cases h
theorem PA(af:Bs):∀(l l' :List Signed),l.map (·.set)=l'.map (·.set)-> ∀s,gI af l s=gI af l' s:=by
 intro l l' h s;unfold gI;have:∀l:List Signed,l.any (λx=>pB af x&&(x.set.name==s))=(l.map (·.set)).any (λy=>pB af ⟨y,[]⟩&&(y.name==s)):=λl=>by rw[List.any_map];rfl
 first
  |rw[this,this,h]
  |(simp only[this,h])
theorem QM(z:aO)(K:List cR)(a b:Int):lU (jJ z K a b)=lU z:=by
 have h:(jJ z K a b).ak.map (·.set)=z.ak.map (·.set):=AZ _ _ _ _ _ _ (rQ _ _ _);exact Gf _ _ (PA z.af _ _ h) _ _ _ h
theorem yr(af:Bs)(K:List cR)(a b:Int):∀(os:List Bool) (l:List Signed),gE af K a b os (gE af K a b os l)=gE af K a b os l
 |[],_=>by rw[gE.eq_def,gE.eq_def]
 |o::os,[]=>rfl
 |o::os,x::t=>by rw[gE,gE,yr af K a b os t];rfl
theorem LC(z:aO)(K:List cR)(a b:Int):jJ (jJ z K a b) K a b=jJ z K a b:=by
 show(⟨z.af,gE z.af K a b (lU (jJ z K a b)) (gE z.af K a b (lU z) z.ak)⟩:aO)=_
 rw[QM,yr];rfl
structure zD(since aN:Int)(n:Int)(z:aO):Prop where
 valid:bf z=true
 next:(pJ n).2=0
 Vt:fP z=(pJ n).1
 has:(wfR z z.af 7).2=true
 keys:(dv (wfR z z.af 7).1).2=0
 again:iK z (dv (wfR z z.af 7).1).1 since aN=(z,0)
theorem wC{since aN:Int}{y z:aO}(h:db since aN y=some z):zD since aN (kq (wfR y y.af 4).1).n z:=by
 have ha:=eA h;obtain⟨h1,h2,h3,h4,h5,h6,h7,h8,e⟩:=oR h;have kn:(eS y).af=y.af:=rfl;have hJ:∀(c:aO) (K:List cR),(iK c K since aN).2=0->iK c K since aN=(jJ c (kG K) since aN,0)/\ ∀z,bf z=true->iK z K since aN=(jJ z (kG K) since aN,0):=λc K hk=>by
  have hA:∀z,bf z=true->oX c K since aN=true->oX z K since aN=true:=λz hz hc=>by
   unfold oX at hc ⊢;simp only[Bool.not_eq_true',Bool.or_eq_false_iff,Bool.not_eq_false']at hc ⊢;exact⟨hc.1,hz⟩
  unfold iK at hk ⊢;split at hk
  .cases hk
  rename_i g1;rw[if_neg g1];split at hk
  .cases hk
  rename_i g2;rw[if_neg g2];split at hk
  .cases hk
  rename_i g3;rw[if_neg g3];refine⟨rfl,λz hz=>?_⟩;rw[if_neg (by rw[hA z hz (by simpa using g1)];decide),if_neg g2,if_neg g3]
 obtain⟨g1,g2⟩:=hJ _ _ h7;rw[g1]at e;dsimp only at e;have hw:∀k:Int,k≠8->wfR z z.af k=wfR (eS y) (eS y).af k:=λk hk=>by
  rw[ha,kn];conv=>lhs;rw[e]
  rw[Gs,Cw h6 _ hk]
 have kj:wfR (eS y) y.af 4=((eM y y.af 4 0 [⟨[],(pJ (kq (wfR y y.af 4).1).n).1,(kq (wfR y y.af 4).1).m⟩]).set,true) :=
  JS (yK (bQ h5).rising.pw) (IU ..) (IT ..)
 refine⟨h8,h2,?_,?_,?_,?_⟩
 .rw[<- uF h8];have h0:=hw 4 (by decide);rw[kn,kj]at h0;unfold cN;unfold wfR at h0;cases hf:mn z z.af 4 with
  |none=>rw[hf]at h0;exact absurd (congrArg Prod.snd h0) (by simp)
  |some x =>
   rw[hf]at h0;have h0:=congrArg Prod.fst h0;dsimp only at h0 ⊢;rw[h0];rfl
 .rw[hw 7 (by decide)];exact h3
 .rw[hw 7 (by decide)];exact h4
 .rw[hw 7 (by decide),g2 z h8];conv=>lhs;rw[e]
  conv=>rhs;rw[e]
  rw[LC]
theorem Mw{cx:Cx}{st st1:St}{X:St->Prop}(hw:aK cx st st1)(h:App X st1):∃st',aK cx st st' /\X st' :=⟨st1,hw,h⟩
def lvB(l:List ao)(i j:Nat):Bool:=match l[i]?, l[j]? with
 |some p,some q=> !((p.ah.af==q.ah.af)&& !decide (p.ah=q.ah))
 |_,_=>true
def lS(w:aZ):Bool:=(List.range w.ai.length).all λi=>(List.range i).all (lvB w.ai i)
theorem Qs{w:aZ}(h:lS w=true){p q:ao}(hp:p∈w.ai)(hq:q∈w.ai)(e:p.ah.af=q.ah.af):p.ah=q.ah:=by
 obtain⟨i,hi⟩:=cQ hp;obtain⟨j,hj⟩:=cQ hq;have key:∀(i j:Nat) (p q:ao),w.ai[i]? =some p->w.ai[j]? =some q->p.ah.af=q.ah.af->j<i->p.ah=q.ah:=λi j p q hi hj e hE=>by
  unfold lS at h;rw[aI]at h;have h1:=h i (List.mem_range.2 (aB.1 hi).1);rw[aI]at h1;have h2:=h1 j (List.mem_range.2 hE);unfold lvB at h2;rw[hi,hj]at h2;simpa [e] using h2
 rcases Nat.lt_trichotomy i j with hij|rfl|hij
 .exact(key j i q p hj hi e.symm hij).symm
 .rw[hi]at hj;cases hj;rfl
 .exact key i j p q hi hj e hij
theorem ND(w:aZ)(hv:∀p∈w.ai,bf p.ah=true)(hn:w.ai.length<=100000):NQ.Fn cx 17 [.agg (bu w)] (.d (.bool (lS w))) []:=by
 refine eR (fun|7=>[66666]|_=>[]) bo mixed Tryz.func17 ?_;conv=>whnf
 refine⟨Nat,λi=>⟨[(1,.ptr 1 0),(3,.d (.int .i64 i))],[(1,.box ((bu w).map .d))]⟩,λi=>i<=w.ai.length/\(List.range i).all (λi=>(List.range i).all (lvB w.ai i))=true,λi=>w.ai.length-i,
  ⟨0,⟨Nat.zero_le _,rfl⟩,aK.keep⟩,?_⟩
 rintro i ⟨hi,hJ⟩;conv=>whnf
 refine aj (λh1=>?_) (λh1=>?_) <;> (rw[h1];conv=>whnf)
 .have hE:i<w.ai.length:=by simp at h1;omega
  obtain⟨p,hp⟩:∃p,w.ai[i]? =some p:=⟨_,au hE⟩
  have ky:=hv p (aD hp);refine⟨Nat,λj=>⟨[(1,.ptr 1 0),(3,.d (.int .i64 i)),(4,.d (.int .i64 j))],[(1,.box ((bu w).map .d))]⟩,λj=>j<=i/\(List.range j).all (lvB w.ai i)=true,λj=>i-j,
   ⟨0,⟨Nat.zero_le _,rfl⟩,aK.keep⟩,?_⟩
  rintro j ⟨hj,kp⟩;conv=>whnf
  refine aj (λh2=>?_) (λh2=>?_) <;> (rw[h2];conv=>whnf)
  .have hR:j<i:=by simp at h2;omega
   obtain⟨q,hq⟩:∃q,w.ai[j]? =some q:=⟨_,au (by omega)⟩
   have kr:lvB w.ai i j= !((p.ah.af==q.ah.af)&& !decide (p.ah=q.ah)):=by unfold lvB;rw[hp,hq]
   refine cu ?_;conv=>whnf
   refine⟨aC i,aR p,aM hp,?_⟩;conv=>whnf
   refine⟨aC j,aR q,aM hq,?_⟩;conv=>whnf
   (refine⟨_,_,Io p.ah q.ah (by have:=(bQ ky).few;omega) (dz ky).2,?_⟩;conv=>whnf)
   (refine bV ?_;conv=>whnf)
   repeat' (first
    |(refine⟨aC i,aR p,aM hp,?_⟩;conv=>whnf)
    |(refine⟨aC j,aR q,aM hq,?_⟩;conv=>whnf)
    |(refine aj (λh=>?_) (λh=>?_) <;> (rw[h];conv=>whnf))
    |fail)
   all_goals first
    |exact⟨j+1,⟨hR,by rw[List.range_succ,List.all_append,kp];simp[kr, *]⟩,by(show i-(j+1)<i-j;omega),aK.keep ⟨ae,ae,⟨ax (k:=j) (by omega),rfl⟩,trivial⟩⟩
    | (refine al rfl ?_
       have kE:lS w=false:=by
        unfold lS;rw[List.all_eq_false];refine⟨i,List.mem_range.2 hE,?_⟩;rw[aI];intro hh;have:=hh j (List.mem_range.2 hR);rw[kr]at this
        simp_all
       rw[kE];rfl)
  .obtain rfl:j=i:=by simp at h2;omega
   exact⟨j+1,⟨hE,by rw[List.range_succ,List.all_append,hJ];simp[kp]⟩,by(show w.ai.length-(j+1)<w.ai.length-j;omega),aK.keep ⟨ae,⟨ax (k:=j) (by omega),rfl⟩,trivial⟩⟩
 .obtain rfl:i=w.ai.length:=by simp at h1;omega
  refine al rfl ?_;unfold lS;rw[hJ];rfl
end Go.Proofs.YtodofogcincleaaGreatDoor
