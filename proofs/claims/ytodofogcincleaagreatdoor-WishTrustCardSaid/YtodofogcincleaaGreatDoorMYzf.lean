/-
  Merged texts.
-/
import Derived.Test.YtodofogcincleaaGreatDoorMYka
set_option linter.all false
set_option maxHeartbeats 8000000
set_option maxRecDepth 100000
namespace Go.Proofs.YtodofogcincleaaGreatDoor
open NQ Go.RowKit
attribute [local irreducible] NQ.FnP
theorem Ot(o:bz)(x:bA)(hn:o.w.ai.length<=1000)(hl:x.ay.length<=1000)(kz:x.ay≠[])(hh:∀n∈x.ay,bJ o.w n=true)(hp:o.aF=[])(hs:o.bp.length<=50)(kc:o.got=[])(hz:bf o.ah=true) :
 FnP eX pvW 67 [.ptr 100034 0,.agg ((bj x).map .d)] (bH o) (jb (rh o x)):=by
 refine bt [100003,100004] Fy Vr Ta Tryz.func67 ?_;conv=>whnf
 obtain⟨r,hr⟩:∃r,r=rh o x:=⟨_,rfl⟩
 rw[<- hr];unfold rh at hr;have hN:=uq o.ah x.ah 4 (by have:=(dz hz).1;omega);have hR:=js (s:=x.ah) (k:=4) (mq hz);generalize wfR o.ah x.ah 4=st at hN hr hR;obtain⟨st,b⟩:=st;dsimp only at hN hr hR;cases b with
 |false =>
  rw[if_neg (by decide)]at hN hr;have hN:=lift (cx' :=eX) hN rfl rfl;subst hr
  (refine cu ?_;conv=>whnf)
  repeat' (first
   |exact⟨[3,100034,90032,90040,90041],_,hN,⟨rfl,rfl,rfl⟩,rfl⟩
   |exact⟨[3,4,100034,90032,90040,90041],_,hN,⟨rfl,rfl,rfl⟩,rfl⟩
   |(refine cO ?_;conv=>whnf)
   |(refine And.intro ?_ ?_ <;> (conv=>whnf)))
 |true =>
 rw[if_pos rfl]at hN hr;have hN:=lift (cx' :=eX) hN rfl rfl;have hR:=hR rfl;apply sU (α:=Unit) (P:=λ_=>True) (canon:=λ_=>⟨[(0,.ptr 100034 0),(3,.ptr 3 0),(4,.ptr 4 0)],(3,.box ((bj x).map .d))::(4,.box ((cg st).map .d))::bH o⟩)
 .intro rest
  (refine cu ?_;conv=>whnf)
  repeat' (first
   |(refine cO ?_;conv=>whnf)
   |(refine⟨[3,100034,90032,90040,90041],_,hN,⟨rfl,rfl,rfl⟩,?_⟩;(conv=>whnf);refine aL ?_;(conv=>whnf))
   |(refine⟨[3,4,100034,90032,90040,90041],_,hN,⟨rfl,rfl,rfl⟩,?_⟩;(conv=>whnf);refine aL ?_;(conv=>whnf))
   |(refine And.intro ?_ ?_ <;> (conv=>whnf)))
  all_goals exact nj (aq.keep) (rest () trivial)
 rintro _ _;unfold App;conv=>whnf
 clear hN;have hC:=bU (pv' :=pvW) (lift (cx' :=eX) (km o.ah (by have:=(dz hz).1;omega) (dz hz).2) rfl rfl);refine⟨[3,4,100034,90032,90040,90041],_,hC,⟨rfl,rfl,rfl⟩,?_⟩;conv=>whnf
 refine aL ?_;conv=>whnf
 refine⟨_,aq.trans (aq.name 5 100004 rfl rfl) (aq.keep (sl:=[(0,.ptr 100034 0),(3,.ptr 3 0),(4,.ptr 4 0),(5,.ptr 100004 0)]) (h:=fU ⟨x.name,o.ah.ak⟩++(3,.box ((bj x).map .d))::(4,.box ((cg st).map .d))::bH o)),?_⟩;conv=>whnf
 have hW:=bU (pv' :=pvW) (lift (cx' :=eX) (yz 133 x) rfl rfl);have ks:=bU (pv' :=pvW) (lift (cx' :=eX) (wU ⟨x.name,o.ah.ak⟩ (AI x) 133 x (by have:=(dz hz).1;dsimp only;omega) (λs=>IJ s x)) rfl rfl);refine⟨[4,100004,90020,100034,90032,90040,90041],_,hW,⟨by kernel_rfl,by kernel_rfl,by kernel_rfl⟩,?_⟩;conv=>whnf
 refine aL ?_
 (conv=>arg 2;arg 1;reduce)
 conv=>whnf
 refine⟨[4,100034,90032,90040,90041],_,ks,⟨by kernel_rfl,by kernel_rfl,by kernel_rfl⟩,?_⟩;conv=>whnf
 refine aL ?_
 (conv=>arg 2;arg 1;reduce)
 conv=>whnf
 have ky:ZSm ⟨x.name,o.ah.ak.filter λs=> !AI x s⟩:=⟨Nat.le_trans (List.length_filter_le ..) (dz hz).1,λs h=>(dz hz).2 s (List.mem_filter.1 h).1⟩
 have kx:mg ⟨x.name,o.ah.ak.filter λs=> !AI x s⟩:=λs h=>mq hz s (List.mem_filter.1 h).1
 have hT:=Ou o x st _ ky kx hR hn hl kz hh hp hs kc hz;replace hr:r=wJ o x st (o.ah.ak.filter λs=> !AI x s):=hr;rw[<- hr]at hT;conv at hT=>whnf
 exact fV hT (aq.keep)
theorem Qb(l:List Datum)(p:Datum->Bool)(x:D)(hn:l.length<=100000)(hf:∀s∈l,NQ.Fn cx 191 [.agg (aQ s),x] (.d (.bool (p s))) []) :
 NQ.Fn cx 239 [.slice 3 (l.map aQ),.fn 191 [] [x]] (.d (.int .i64 (match l.findIdx? p with|some k=>(k:Int)|none=> -1))) []:=by
 refine aT bo mixed Tryz.func239 ?_;conv=>whnf
 refine⟨Nat,λk=>⟨[(0,.d (.slice 3 (l.map aQ))),(1,.d (.fn 191 [] [x])),(7,.d (.int .i64 ((l.map aQ).length:Int))),(8,.d (.int .i64 k))],[]⟩,λk=>k<=l.length/\ ∀j y,j<k->l[j]? =some y->p y=false,λk=>l.length-k,
  ⟨0,⟨by omega,λj y h=>by omega⟩,aK.keep ⟨ae,ae,ae,ae,trivial⟩ trivial⟩,λk hk=>?_⟩
 obtain⟨hk,ht⟩:=hk;conv=>whnf
 refine aj (λh1=>?_) (λh1=>?_) <;> (rw[h1];conv=>whnf)
 .have hg:k<l.length:=by simp at h1;omega
  obtain⟨s,hs⟩:∃s,l[k]? =some s:=⟨_,au hg⟩
  refine⟨aC k,aQ s,aM hs,?_⟩;conv=>whnf
  (refine⟨_,_,hf s (aD hs),?_⟩;conv=>whnf)
  refine aj (λh2=>?_) (λh2=>?_) <;> (rw[h2];conv=>whnf)
  .refine al rfl ?_;have:l.findIdx? p=some k:=by
    rw[List.findIdx?_eq_some_iff_getElem];obtain⟨g1,g2⟩:=aB.1 hs;refine⟨g1,by rw[g2];exact h2,λj hj=>?_⟩;have:=ht j (l[j]) hj (au (by omega));rw[this];decide
   rw[this];rfl
  .refine⟨k+1,⟨hg,λj y hj hy=>?_⟩,by(show l.length-(k+1)<l.length-k;omega),aK.keep ⟨ae,ae,ae,⟨ax (by omega),rfl⟩,trivial⟩ trivial⟩;rcases Nat.lt_succ_iff_lt_or_eq.1 hj with hj|rfl
   .exact ht j y hj hy
   .rw[hs]at hy;cases hy;exact h2
 .obtain rfl:k=l.length:=by simp at h1;omega
  refine al rfl ?_;have:l.findIdx? p=none:=by
   rw[List.findIdx?_eq_none_iff];intro x hx;obtain⟨i,hi⟩:=cQ hx;exact ht i x (aB.1 hi).1 hi
  rw[this];rfl
theorem Tg(d:Datum)(h:kb):NQ.Fn cx 191 [.agg (aQ d),.ptr (fJ h)] (.d (.bool (d.n==h.addr))) []:=by
 refine aT bo mixed Tryz.func191 ?_;conv=>whnf
 exact al rfl rfl
theorem OZ(l:List Datum)(p:Datum->Bool)(x:D)(hn:l.length<=100000)(hf:∀s∈l,NQ.Fn cx 191 [.agg (aQ s),x] (.d (.bool (p s))) []) :
 NQ.Fn cx 190 [.slice 3 (l.map aQ),.fn 191 [] [x]] (.d (.bool (l.any p))) []:=by
 refine aT bo mixed Tryz.func190 ?_;conv=>whnf
 (refine⟨_,_,Qb l p x hn hf,?_⟩;conv=>whnf)
 refine al rfl ?_;exact congrArg (λb=>AV.d (D.bool b)) (ya p l)
def xn(data:List Datum)(but:Int)(i:Nat)(h:kb):Bool:=((i:Int) != but)&&data.any λd=>d.n==h.addr
def oD(data:List Datum)(but:Int):Nat->List kb->List Int
 |_,[]=>[]
 |i,h::t=>(if xn data but i h=true then[(i:Int)]else[])++oD data but (i+1) t
noncomputable def PD:Cx:={cx with bld:=[]}
theorem Vp:bD PD:=bo
theorem SY:PD.P.follows .mixedOrders=true:=mixed
theorem Ga(o:bz)(data:List Datum)(but:Int)(hd:data.length<=100000)(hh:o.w.ay.length<=100000):FnP PD pvW 127 [.ptr 100034 0,.d (.slice 3 (data.map aQ)),.d (.int .i64 but)] (bH o) (some (.d (.cY (dJ (oD data but 0 o.w.ay))),bH o)):=by
 refine bt [] (fun|5=>[9]|_=>[]) Vp SY Tryz.func127 ?_;conv=>whnf
 refine⟨Nat×List Int,λq=>⟨[(0,.ptr 100034 0),(1,.d (.slice 3 (data.map aQ))),(2,.d (.int .i64 but)),(7,.omap 10),(15,.d (.slice 3 (o.w.ay.map fJ))),(16,.d (.int .i64 ((o.w.ay.map fJ).length:Int))),(17,.d (.int .i64 q.1))],(10,.cY (dJ q.2))::bH o⟩,
  λq=>q.1<=o.w.ay.length/\q.2++oD data but q.1 (o.w.ay.drop q.1)=oD data but 0 o.w.ay/\ ∀v∈q.2,v<(q.1:Int),λq=>o.w.ay.length-q.1,⟨(0,[]),⟨Nat.zero_le _,rfl,λv h=>by cases h⟩,aq.keep⟩,?_⟩
 rintro⟨k,m⟩ ⟨hk,hm,hJ⟩;dsimp only at hk hm hJ;conv=>whnf
 refine aj (λh1=>?_) (λh1=>?_) <;> (rw[h1];conv=>whnf)
 .have hg:k<o.w.ay.length:=by simp at h1;omega
  obtain⟨h,ko⟩:∃h,o.w.ay[k]? =some h:=⟨_,au hg⟩
  rw[drop_cons ko]at hm;have hm:m++((if xn data but k h=true then[(k:Int)]else[])++oD data but (k+1) (o.w.ay.drop (k+1)))=oD data but 0 o.w.ay:=hm;rw[<- List.append_assoc]at hm;refine⟨aC k,fJ h,aM ko,?_⟩;conv=>whnf
  have skip:xn data but k h=false->m++oD data but (k+1) (o.w.ay.drop (k+1))=oD data but 0 o.w.ay:=λe=>by rw[if_neg (by rw[e];decide),List.append_nil]at hm;exact hm
  have hA:∀v∈m,v<((k+1:Nat):Int):=λv h=>by have:=hJ v h;omega
  refine aj (λh2=>?_) (λh2=>?_) <;> (rw[h2];conv=>whnf)
  . (refine⟨_,_,OZ data (λd=>d.n==h.addr) (.ptr (fJ h)) hd (λd _=>Tg d h),?_⟩;conv=>whnf)
    cases hc:data.any (λd=>d.n==h.addr)with
    |true =>
     conv=>whnf
     have kB:m.contains (k:Int)=false:=by
      rw[<- Bool.not_eq_true,mc];intro h;have:=hJ _ h;omega
     rw[if_pos (by unfold xn;rw[hc,iG];exact h2)]at hm;refine⟨_,Es kB,?_⟩;conv=>whnf
     exact⟨(k+1,m++[(k:Int)]),⟨hg,hm,λv h=>by
      rcases List.mem_append.1 h with h|h
      .exact hA v h
      .rcases List.mem_singleton.1 h with rfl;dsimp only;omega⟩,by(show o.w.ay.length-(k+1)<o.w.ay.length-k;omega),aq.keep ⟨ae,ae,ae,ae,ae,ae,⟨ax (k:=k) (by omega),rfl⟩,trivial⟩⟩
    |false =>
     conv=>whnf
     exact⟨(k+1,m),⟨hg,skip (by unfold xn;rw[hc,ma]),hA⟩,by(show o.w.ay.length-(k+1)<o.w.ay.length-k;omega),aq.keep ⟨ae,ae,ae,ae,ae,ae,⟨ax (k:=k) (by omega),rfl⟩,trivial⟩⟩
  .exact⟨(k+1,m),⟨hg,skip (by unfold xn;rw[show((k:Int) != but)=false from h2];rfl),hA⟩,by(show o.w.ay.length-(k+1)<o.w.ay.length-k;omega),aq.keep ⟨ae,ae,ae,ae,ae,ae,⟨ax (k:=k) (by omega),rfl⟩,trivial⟩⟩
 .obtain rfl:k=o.w.ay.length:=by simp at h1;omega
  rw[List.drop_length]at hm;have hm:m=oD data but 0 o.w.ay:=by rw[<- hm];exact(List.append_nil _).symm
  subst hm;exact gz (aq.sn [10]) rfl rfl rfl
abbrev ed(s:Bs):List D:=[.str s]
theorem No(l:List Bs)(x:Bs)(hl:l.length<=100000):NQ.Fn cx 240 [.slice 1 (l.map ed),.str x] (.d (.int .i64 (match l.findIdx? (· ==x)with|some k=>(k:Int)|none=> -1))) []:=by
 refine aT bo mixed Tryz.func240 ?_;conv=>whnf
 refine⟨Nat,λk=>⟨[(0,.d (.slice 1 (l.map ed))),(1,.d (.str x)),(7,.d (.int .i64 ((l.map ed).length:Int))),(8,.d (.int .i64 k))],[]⟩,λk=>k<=l.length/\ ∀j y,j<k->l[j]? =some y->(y==x)=false,λk=>l.length-k,
  ⟨0,⟨by omega,λj y h=>by omega⟩,aK.keep ⟨ae,ae,ae,ae,trivial⟩ trivial⟩,λk ⟨hk,ht⟩=>?_⟩
 conv=>whnf
 refine aj (λh1=>?_) (λh1=>?_) <;> (rw[h1];conv=>whnf)
 .have hg:k<l.length:=by simp at h1;omega
  obtain⟨y,hy⟩:∃s,l[k]? =some s:=⟨_,au hg⟩
  refine⟨aC k,ed y,aM hy,?_⟩;conv=>whnf
  (refine aj (λh=>?_) (λh=>?_) <;> (rw[h];conv=>whnf))
  .refine al rfl ?_;have:l.findIdx? (· ==x)=some k:=by
    rw[List.findIdx?_eq_some_iff_getElem];refine⟨hg,?_,λj hj=>?_⟩
    .obtain⟨_,e⟩:=aB.1 hy;rw[e];simp at h ⊢;exact h.symm
    .have:=ht j l[j] hj (au (by omega));simpa using this
   rw[this];rfl
  .refine⟨k+1,⟨hg,λj z hj hz=>?_⟩,by(show l.length-(k+1)<l.length-k;omega),aK.keep ⟨ae,ae,ae,⟨ax (by omega),rfl⟩,trivial⟩ trivial⟩;rcases Nat.lt_or_eq_of_le (Nat.le_of_lt_succ hj)with h2|rfl
   .exact ht j z h2 hz
   .rw[hy]at hz;cases hz;simp at h ⊢;exact λe=>h e.symm
 .obtain rfl:k=l.length:=by simp at h1;omega
  refine al rfl ?_;have:l.findIdx? (· ==x)=none:=by
   rw[List.findIdx?_eq_none_iff];intro y hy;obtain⟨j,hj⟩:=cQ hy;exact ht j y (aB.1 hj).1 hj
  rw[this];rfl
theorem vv(l:List Bs)(x:Bs)(hl:l.length<=100000):NQ.Fn cx 192 [.slice 1 (l.map ed),.str x] (.d (.bool (l.contains x))) []:=by
 refine aT bo mixed Tryz.func192 ?_;conv=>whnf
 (refine⟨_,_,No l x hl,?_⟩;conv=>whnf)
 refine al rfl ?_;show AV.d (D.bool (decide ((match l.findIdx? (· ==x)with|some k=>(k:Int)|none=> -1)>=0)))=_
 congr 2
 cases h:l.findIdx? (· ==x)with
 |some k =>
  obtain⟨h1,h2,_⟩:=List.findIdx?_eq_some_iff_getElem.1 h;have:l.contains x=true:=by
   rw[mc];have e:l[k]=x:=by simpa using h2
   exact e ▸ List.getElem_mem h1
  rw[this,decide_eq_true];exact aC k
 |none =>
  have:l.contains x=false:=by
   rw[<- Bool.not_eq_true,mc];intro hm;have:=List.findIdx?_eq_none_iff.1 h x hm;simp at this
  rw[this];rfl
def lj(f:ao->Bool)(l:List Bs)(p:ao):List Bs:=if (f p&& !l.contains p.ah.af)=true then l++[p.ah.af]else l
def dG(f:ao->Bool)(zs:List ao):List Bs:=zs.foldl (lj f) []
theorem Eu{f:ao->Bool}{zs:List ao}{k:Nat}{p:ao}(h:zs[k]? =some p):dG f (zs.take (k+1))=lj f (dG f (zs.take k)) p:=by
 unfold dG;rw[List.take_add_one,h,List.foldl_append];rfl
theorem oi(f:ao->Bool)(zs:List ao):(dG f zs).length<=zs.length:=by
 have:∀(zs:List ao) (l:List Bs),(zs.foldl (lj f) l).length<=l.length+zs.length:=λzs=>by
  induction zs with
  |nil=>intro l;exact Nat.le_refl _
  |cons p t ih =>
   intro l;have h1:=ih (lj f l p);have h2:(lj f l p).length<=l.length+1:=by
    unfold lj;split
    .simp
    .omega
   show(t.foldl (lj f) (lj f l p)).length<=_
   simp only[List.length_cons];omega
 have:=this zs [];simpa [dG] using this
noncomputable def BI:Cx:={cx with chg:=gX [(129,9),(130,9)],bld:=[33]}
theorem LR:bD BI:=bo
theorem xu:BI.P.follows .mixedOrders=true:=mixed
abbrev nc(l:List Int):List (Nat×Blk):=[(100007,.box [.d (.cY (dJ l))])]
theorem Mn(l:List Int)(p:ao):FnP BI pvW 129 [.agg ((aR p).map .d),.ptr 100007 0] (nc l) (some (.d (.bool (l.contains p.host)),nc l)):=by
 refine bt [] (fun|_=>[]) LR xu Tryz.func129 ?_;conv=>whnf
 refine⟨_,oY p.host l,?_⟩;cases l.contains p.host with
 |true =>
  conv=>whnf
  exact cq rfl rfl rfl
 |false =>
  conv=>whnf
  exact cq rfl rfl rfl
theorem Mo(p:ao):FnP BI pvW 130 [.agg ((aR p).map .d)] [] (some (.d (.bool true),[])):=by
 refine bt [] (fun|_=>[]) LR xu Tryz.func130 ?_;conv=>whnf
 exact iQ rfl rfl rfl
theorem Hh(o:bz)(m:List Int)(hn:o.w.ai.length<=1000):FnP BI pvW 128 [.ptr 100034 0,.fn 129 [] [.ptr 100007 0]] (nc m++bH o) (some (.d (.slice 1 ((dG (λp=>m.contains p.host) o.w.ai).map ed)),nc m++bH o)):=by
 refine bt [] (fun|5=>[33333]|_=>[]) LR xu Tryz.func128 ?_;conv=>whnf
 refine⟨Nat,λk=>⟨[(0,.ptr 100034 0),(1,.fn 129 [] [.ptr 100007 0]),(5,.own 55),(12,.d (.slice 3 (o.w.ai.map aR))),(13,.d (.int .i64 ((o.w.ai.map aR).length:Int))),(14,.d (.int .i64 k))],(55,.row 9 1 ((dG (λp=>m.contains p.host) (o.w.ai.take k)).map ed))::nc m++bH o⟩,
  λk=>k<=o.w.ai.length,λk=>o.w.ai.length-k,⟨0,Nat.zero_le _,(aq.jV 5 55 1 9 1 rfl rfl (by decide)).trans (aq.keep)⟩,λk hk=>?_⟩
 conv=>whnf
 refine aj (λh1=>?_) (λh1=>?_) <;> (rw[h1];conv=>whnf)
 .have hg:k<o.w.ai.length:=by simp at h1;omega
  obtain⟨p,hG⟩:∃p,o.w.ai[k]? =some p:=⟨_,au hg⟩
  have hZ:=Eu (f:=(λp=>m.contains p.host)) hG;have hlen:=oi ((λp=>m.contains p.host)) (o.w.ai.take k);have hQ:(o.w.ai.take k).length<=k:=by simp;omega
  have skip:((λp=>m.contains p.host) p&& !(dG (λp=>m.contains p.host) (o.w.ai.take k)).contains p.ah.af)=false->dG (λp=>m.contains p.host) (o.w.ai.take (k+1))=dG (λp=>m.contains p.host) (o.w.ai.take k):=λe=>by rw[hZ];unfold lj;rw[if_neg (by rw[e];decide)]
  refine⟨aC k,aR p,aM hG,?_⟩;conv=>whnf
  have hC:=Mn m p;refine⟨[7,55,100034,90032,90040,90041],_,hC,⟨by kernel_rfl,by kernel_rfl,by kernel_rfl⟩,?_⟩;conv=>whnf
  refine aL ?_;conv=>whnf
  cases hfp:m.contains p.host with
  |false =>
   conv=>whnf
   have e:=skip (by(show(m.contains p.host&&_)=false);rw[hfp];rfl);exact⟨k+1,hg,by(show o.w.ai.length-(k+1)<o.w.ai.length-k;omega),aq.keep ⟨ae,ae,ae,ae,ae,⟨ax (k:=k) (by omega),rfl⟩,trivial⟩ ⟨⟨congrArg (λr:List Bs=>some (Blk.row 9 1 (r.map ed))) e.symm,rfl⟩,ae,ae,ae,ae,ae,trivial⟩⟩
  |true =>
  conv=>whnf
  refine⟨_,vv (dG (λp=>m.contains p.host) (o.w.ai.take k)) p.ah.af (by omega),by kernel_rfl,?_⟩;conv=>whnf
  cases hc:(dG (λp=>m.contains p.host) (o.w.ai.take k)).contains p.ah.af with
  |true =>
   conv=>whnf
   have e:=skip (by rw[hc];simp);exact⟨k+1,hg,by(show o.w.ai.length-(k+1)<o.w.ai.length-k;omega),aq.keep ⟨ae,ae,ae,ae,ae,⟨ax (k:=k) (by omega),rfl⟩,trivial⟩ ⟨⟨congrArg (λr:List Bs=>some (Blk.row 9 1 (r.map ed))) e.symm,rfl⟩,ae,ae,ae,ae,ae,trivial⟩⟩
  |false =>
   conv=>whnf
   refine⟨by(show((dG (λp=>m.contains p.host) (o.w.ai.take k)).map ed).length+1<=_;rw[aA];omega),by(show(((dG (λp=>m.contains p.host) (o.w.ai.take k)).map ed).length+1)*16<=_;rw[aA];omega),?_⟩;conv=>whnf
   have e:(dG (λp=>m.contains p.host) (o.w.ai.take k)).map ed++[[.str p.ah.af]]=(dG (λp=>m.contains p.host) (o.w.ai.take (k+1))).map ed:=by
    rw[hZ];unfold lj;rw[if_pos (by rw[hc];show(m.contains p.host&&true)=true;rw[hfp];rfl),List.map_append];rfl
   exact⟨k+1,hg,by(show o.w.ai.length-(k+1)<o.w.ai.length-k;omega),aq.keep ⟨ae,ae,ae,ae,ae,⟨ax (k:=k) (by omega),rfl⟩,trivial⟩ ⟨⟨congrArg (λr=>some (Blk.row 9 1 r)) e,rfl⟩,ae,ae,ae,ae,ae,trivial⟩⟩
 .obtain rfl:k=o.w.ai.length:=by simp at h1;omega
  exact gz (aq.sn [55]) rfl (by rw[List.take_length];rfl) rfl
theorem Hi(o:bz)(hn:o.w.ai.length<=1000):FnP BI pvW 128 [.ptr 100034 0,.d (.fn 130 [] [])] (bH o) (some (.d (.slice 1 ((dG (λ_=>true) o.w.ai).map ed)),bH o)):=by
 refine bt [] (fun|5=>[33333]|_=>[]) LR xu Tryz.func128 ?_;conv=>whnf
 refine⟨Nat,λk=>⟨[(0,.ptr 100034 0),(1,.d (.fn 130 [] [])),(5,.own 55),(12,.d (.slice 3 (o.w.ai.map aR))),(13,.d (.int .i64 ((o.w.ai.map aR).length:Int))),(14,.d (.int .i64 k))],(55,.row 9 1 ((dG (λ_=>true) (o.w.ai.take k)).map ed))::bH o⟩,
  λk=>k<=o.w.ai.length,λk=>o.w.ai.length-k,⟨0,Nat.zero_le _,(aq.jV 5 55 1 9 1 rfl rfl (by decide)).trans (aq.keep)⟩,λk hk=>?_⟩
 conv=>whnf
 refine aj (λh1=>?_) (λh1=>?_) <;> (rw[h1];conv=>whnf)
 .have hg:k<o.w.ai.length:=by simp at h1;omega
  obtain⟨p,hG⟩:∃p,o.w.ai[k]? =some p:=⟨_,au hg⟩
  have hZ:=Eu (f:=(λ_=>true)) hG;have hlen:=oi ((λ_=>true)) (o.w.ai.take k);have hQ:(o.w.ai.take k).length<=k:=by simp;omega
  have skip:((λ_=>true) p&& !(dG (λ_=>true) (o.w.ai.take k)).contains p.ah.af)=false->dG (λ_=>true) (o.w.ai.take (k+1))=dG (λ_=>true) (o.w.ai.take k):=λe=>by rw[hZ];unfold lj;rw[if_neg (by rw[e];decide)]
  refine⟨aC k,aR p,aM hG,?_⟩;conv=>whnf
  have hC:=Mo p;refine⟨[7,55,100034,90032,90040,90041],_,hC,⟨by kernel_rfl,by kernel_rfl,by kernel_rfl⟩,?_⟩;conv=>whnf
  refine aL ?_;conv=>whnf
  refine⟨_,vv (dG (λ_=>true) (o.w.ai.take k)) p.ah.af (by omega),by kernel_rfl,?_⟩;conv=>whnf
  cases hc:(dG (λ_=>true) (o.w.ai.take k)).contains p.ah.af with
  |true =>
   conv=>whnf
   have e:=skip (by rw[hc];simp);exact⟨k+1,hg,by(show o.w.ai.length-(k+1)<o.w.ai.length-k;omega),aq.keep ⟨ae,ae,ae,ae,ae,⟨ax (k:=k) (by omega),rfl⟩,trivial⟩ ⟨⟨congrArg (λr:List Bs=>some (Blk.row 9 1 (r.map ed))) e.symm,rfl⟩,ae,ae,ae,ae,trivial⟩⟩
  |false =>
   conv=>whnf
   refine⟨by(show((dG (λ_=>true) (o.w.ai.take k)).map ed).length+1<=_;rw[aA];omega),by(show(((dG (λ_=>true) (o.w.ai.take k)).map ed).length+1)*16<=_;rw[aA];omega),?_⟩;conv=>whnf
   have e:(dG (λ_=>true) (o.w.ai.take k)).map ed++[[.str p.ah.af]]=(dG (λ_=>true) (o.w.ai.take (k+1))).map ed:=by
    rw[hZ];unfold lj;rw[if_pos (by rw[hc];rfl),List.map_append];rfl
   exact⟨k+1,hg,by(show o.w.ai.length-(k+1)<o.w.ai.length-k;omega),aq.keep ⟨ae,ae,ae,ae,ae,⟨ax (k:=k) (by omega),rfl⟩,trivial⟩ ⟨⟨congrArg (λr=>some (Blk.row 9 1 r)) e,rfl⟩,ae,ae,ae,ae,trivial⟩⟩
 .obtain rfl:k=o.w.ai.length:=by simp at h1;omega
  exact gz (aq.sn [55]) rfl (by rw[List.take_length];rfl) rfl
def iV(m:List Int)(l:List ao):List ao:=(l.filter λp=>m.contains p.host).map λp=>⟨p.host,⟨p.ah.af,[]⟩⟩
theorem Di(m:List Int)(l:List ao):(iV m l).length<=l.length:=by
 unfold iV;rw[aA];exact List.length_filter_le ..
def xd(o:bz)(m:List Int):bz:=cy {cy o with aF:=iV m o.w.ai}
noncomputable def iX:Cx:={cx with chg:=gX [(113,10),(62,10),(111,9),(127,9),(128,9),(114,9),(122,9),(116,9),(120,9),(119,9),(115,9)],bld:=[83,118]}
theorem Vi:bD iX:=bo
theorem SP:iX.P.follows .mixedOrders=true:=mixed
def PV:Nat->List Nat:=fun|3=>[55555]|4=>[33333]|5=>[33333]|6=>[33333,55555]|9=>[33333]|10=>[33333]|11=>[33333]|13=>[33333]|14=>[55555]|15=>[33333,55555]|18=>[33333]|19=>[55555]|21=>[33333,55555]|23=>[33333,55555]|24=>[55555]|28=>[33333]|30=>[33333,55555]|_=>[]
noncomputable abbrev Ml:Code:=(Tryz.f66).body.getD .skip
noncomputable abbrev TF:List ResultVar:=(Tryz.f66).results.toList
theorem JY(o:bz)(m:List Int)(hn:o.w.ai.length<=1000)(hp:o.aF.length<=100000)(hs:o.bp.length<=100)(hI:∀a,(bW o.got a).length<=1000)(kj:∀p∈o.aF,p.ah.ak.length<=100000)(kE:∀p∈o.aF,jO o.w o.got p=false) :
 vcp iX [100007] pvW 148 PV (λ_=>jb (some (xd o m))=none) ((gL 23 Ml).getD .skip) (nI iX [100007] TF (jb (some (xd o m))))
  ⟨[(0,.ptr 100034 0),(7,.ptr 100007 0)],nc m++bH o⟩:=by
 conv=>whnf
 refine⟨_,aq.refl _,?_⟩;conv=>whnf
 have hK:=lift (cx' :=iX) (kY o hn hp (by omega) hI kj kE) rfl rfl;refine⟨[100007],_,hK,⟨rfl,rfl,rfl⟩,?_⟩;conv=>whnf
 refine aL ?_;conv=>whnf
 have kF:(cy o).bp.length<=101:=oO hs;have hE:xd o m=cy {cy o with aF:=iV m o.w.ai}:=rfl;have kk:(cy o).w=o.w:=rfl;have kp:(cy o).aF=[]:=rfl;have hM:∀a,(bW (cy o).got a).length<=1000:=hI;refine⟨_,aq.keep (sl:=[(0,.ptr 100034 0),(7,.ptr 100007 0)]) (h:=nc m++bH (cy o)),?_⟩;rw[hE];generalize cy o=o1 at kF kk kp hM ⊢;rw[<- kk];rw[<- kk]at hn;conv=>whnf
 refine⟨Nat×List ao,λq=>⟨[(0,.ptr 100034 0),(7,.ptr 100007 0),(128,.d (.slice 3 (o1.w.ai.map aR))),(129,.d (.int .i64 ((o1.w.ai.map aR).length:Int))),(130,.d (.int .i64 q.1))],nc m++bH {o1 with aF:=q.2}⟩,
  λq=>q.1<=o1.w.ai.length/\q.2++iV m (o1.w.ai.drop q.1)=iV m o1.w.ai/\q.2.length<=q.1,λq=>o1.w.ai.length-q.1,⟨(0,[]),⟨Nat.zero_le _,rfl,Nat.le_refl _⟩,aq.keep (by repeat' (first|exact trivial|refine⟨⟨rfl,rfl⟩,?_⟩)) ⟨⟨rfl,rfl⟩,⟨rfl,rfl⟩,⟨rfl,rfl⟩,⟨congrArg (λr:List ao=>some (Blk.row 45 3 (r.map aR))) kp,rfl⟩,⟨rfl,rfl⟩,trivial⟩⟩,?_⟩
 rintro⟨k,ps⟩ ⟨hk,hs,kA⟩;dsimp only at hk hs kA;conv=>whnf
 refine aj (λh1=>?_) (λh1=>?_) <;> (rw[h1];conv=>whnf)
 .have hg:k<o1.w.ai.length:=by simp at h1;omega
  obtain⟨p,hG⟩:∃p,o1.w.ai[k]? =some p:=⟨_,au hg⟩
  have hd:iV m (o1.w.ai.drop k)=(if m.contains p.host=true then[⟨p.host,⟨p.ah.af,[]⟩⟩]else[])++iV m (o1.w.ai.drop (k+1)):=by
   rw[drop_cons hG];unfold iV;rw[List.filter_cons];split <;> rfl
  rw[hd, <- List.append_assoc]at hs;refine⟨aC k,aR p,aM hG,?_⟩;conv=>whnf
  refine⟨_,oY p.host m,?_⟩;cases hc:m.contains p.host with
  |false =>
   rw[if_neg (by rw[hc];decide),List.append_nil]at hs;conv=>whnf
   exact⟨(k+1,ps),⟨hg,hs,by dsimp only;omega⟩,by(show o1.w.ai.length-(k+1)<o1.w.ai.length-k;omega),aq.keep ⟨ae,ae,ae,ae,⟨ax (k:=k) (by omega),rfl⟩,trivial⟩⟩
  |true =>
   rw[if_pos hc]at hs;conv=>whnf
   have hP:=lift (cx' :=iX) (Gz {o1 with aF:=ps} p.host p.ah.af (by dsimp only;omega)) rfl rfl;refine⟨[20,100007],_,hP,⟨rfl,rfl,rfl⟩,?_⟩;conv=>whnf
   refine aL ?_;conv=>whnf
   exact⟨(k+1,ps++[⟨p.host,⟨p.ah.af,[]⟩⟩]),⟨hg,hs,by simp;omega⟩,by(show o1.w.ai.length-(k+1)<o1.w.ai.length-k;omega),aq.keep ⟨ae,ae,ae,ae,⟨ax (k:=k) (by omega),rfl⟩,trivial⟩⟩
 .obtain rfl:k=o1.w.ai.length:=by simp at h1;omega
  rw[List.drop_length]at hs;have hs:ps=iV m o1.w.ai:=by rw[<- hs];exact(List.append_nil _).symm
  have kG:=Di m o1.w.ai;subst hs;have hK:=lift (cx' :=iX) (kY {o1 with aF:=iV m o1.w.ai} hn (by dsimp only;omega) (by dsimp only;omega) hM (λp hp=>by
   unfold iV at hp;obtain⟨q,_,rfl⟩:=List.mem_map.1 hp;simp) (λp hp=>by
   dsimp only at hp;unfold iV at hp;obtain⟨q,_,rfl⟩:=List.mem_map.1 hp;exact Em)) rfl rfl
  refine⟨_,aq.keep (sl:=[(0,.ptr 100034 0)]) (h:=bH {o1 with aF:=iV m o1.w.ai}),?_⟩;conv=>whnf
  refine⟨[],_,hK,⟨rfl,rfl,rfl⟩,?_⟩;conv=>whnf
  refine aL ?_;conv=>whnf
  exact .inl ⟨[],aq.keep trivial,rfl⟩
def mh(o:bz)(x:bA)(ad:Datum):List Bs->List ao->Option (List ao)
 |[],ps=>some ps
 | a :: t, ps => if (wfR (bS o.w.ai a).1 x.name 1).2 = true then (match db o.since o.aN (bL (bS o.w.ai a).1 x.name 1 o.aP [ad]) with
     |none=>none
     |some z=>mh o x ad t (ps++bT z o.w.ai++dL z (bW o.got z.af)))else mh o x ad t ps
theorem JW(o : bz)(x : bA)(ad : Datum)(a : Bs)(t : List Bs)(ps : List ao) : mh o x ad (a :: t) ps = if (wfR (bS o.w.ai a).1 x.name 1).2 = true then (match db o.since o.aN (bL (bS o.w.ai a).1 x.name 1 o.aP [ad]) with
      |none=>none
      |some z=>mh o x ad t (ps++bT z o.w.ai++dL z (bW o.got z.af)))else mh o x ad t ps:=rfl
def ve(o:bz)(x:bA)(ad:Datum)(m:List Int):Option bz:=match mh o x ad (dG (λ_=>true) o.w.ai) []with
 |none=>none
 |some ps=>some (xd {o with aF:=ps} m)
theorem Kp{zs:List ao}{a s:Bs}{k:Int}(hv:∀p∈zs,bf p.ah=true)(h:(wfR (bS zs a).1 s k).2=true):bf (bS zs a).1=true:=by
 rcases eW zs a with ⟨p,hp,hc,_⟩|⟨hc,_⟩
 .rw[hc];exact hv p hp
 .rw[hc]at h;cases h
theorem JX(o:bz)(x:bA)(ad:Datum)(m:List Int)(hv:∀p∈o.w.ai,bf p.ah=true)(hn:o.w.ai.length<=20)(hp:o.aF=[])(hs:o.bp.length<=100)(hI:∀a,(bW o.got a).length<=20) :
 vcp iX [100007] pvW 148 PV (λ_=>jb (ve o x ad m)=none) ((gL 15 Ml).getD .skip) (nI iX [100007] TF (jb (ve o x ad m)))
  ⟨[(0,.ptr 100034 0),(3,.ptr 3 0),(7,.ptr 100007 0),(12,.d (.slice 3 [aQ ad]))],(3,.box ((bj x).map .d))::nc m++bH o⟩:=by
 conv=>whnf
 refine⟨_,aq.refl _,?_⟩;conv=>whnf
 obtain⟨r,hr⟩:∃r,r=ve o x ad m:=⟨_,rfl⟩
 rw[<- hr];have hX:=lift (cx' :=iX) (Hi o (by omega)) rfl rfl;have kd:=oi (λ_=>true) o.w.ai;have hr:r=match mh o x ad (dG (λ_=>true) o.w.ai) []with|none=>none|some ps=>some (xd {o with aF:=ps} m):=hr
 generalize dG (λ_=>true) o.w.ai=l at hX kd hr
 refine⟨[3,100007],_,hX,⟨by kernel_rfl,by kernel_rfl,by kernel_rfl⟩,?_⟩;conv=>whnf
 refine aL ?_;conv=>whnf
 refine⟨Nat×List ao,λq=>⟨[(0,.ptr 100034 0),(3,.ptr 3 0),(7,.ptr 100007 0),(12,.d (.slice 3 [aQ ad])),(85,.d (.slice 1 (l.map ed))),(86,.d (.int .i64 ((l.map ed).length:Int))),(87,.d (.int .i64 q.1))],(3,.box ((bj x).map .d))::nc m++bH {o with aF:=q.2}⟩,
  λq=>q.1<=l.length/\mh o x ad (l.drop q.1) q.2=mh o x ad l []/\q.2.length<=40*q.1/\ ∀p∈q.2,jO o.w o.got p=false/\p.ah.ak.length<=20000,λq=>l.length-q.1,⟨(0,[]),⟨Nat.zero_le _,rfl,Nat.le_refl _,λp h=>by cases h⟩,aq.keep (by repeat' (first|exact trivial|refine⟨⟨rfl,rfl⟩,?_⟩)) ⟨⟨rfl,rfl⟩,⟨rfl,rfl⟩,⟨rfl,rfl⟩,⟨rfl,rfl⟩,⟨congrArg (λr:List ao=>some (Blk.row 45 3 (r.map aR))) hp,rfl⟩,⟨rfl,rfl⟩,trivial⟩⟩,?_⟩
 rintro⟨k,ps⟩ ⟨hk,ho,ki,hV⟩;dsimp only at hk ho ki hV;conv=>whnf
 refine aj (λh1=>?_) (λh1=>?_) <;> (rw[h1];conv=>whnf)
 .have hg:k<l.length:=by simp at h1;omega
  obtain⟨a,hL⟩:∃a,l[k]? =some a:=⟨_,au hg⟩
  rw[drop_cons hL]at ho;rw[JW]at ho;refine⟨aC k,ed a,aM hL,?_⟩;conv=>whnf
  have hC:=bU (pv' :=pvW) (lift (cx' :=iX) (jm o.w a hv (by omega)) rfl rfl);have ke:=CA hv a;have hD:=Kp (a:=a) (s:=x.name) (k:=1) hv;generalize bS o.w.ai a=c at hC ke hD ho;obtain⟨c,cb⟩:=c;dsimp only at hC ke hD ho;refine⟨[3,100007,100034,90032,90040,90041],_,hC,⟨by kernel_rfl,by kernel_rfl,by kernel_rfl⟩,?_⟩;conv=>whnf
  refine aL ?_;conv=>whnf
  refine⟨_,aq.keep (sl:=[(0,.ptr 100034 0),(3,.ptr 3 0),(7,.ptr 100007 0),(12,.d (.slice 3 [aQ ad])),(15,.ptr 15 0),(85,.d (.slice 1 (l.map ed))),(86,.d (.int .i64 ((l.map ed).length:Int))),(87,.d (.int .i64 k))]) (h:=(3,.box ((bj x).map .d))::(15,.box ((aX c).map .d))::nc m++bH {o with aF:=ps}),?_⟩;conv=>whnf
  have hF:=ni c x.name 1 ke;generalize wfR c x.name 1=s1 at hF hD ho;obtain⟨s1,b1⟩:=s1;dsimp only at hF hD ho
  (refine⟨_,_,hF,?_⟩;conv=>whnf)
  cases b1 with
  |false =>
   rw[if_neg (by decide)]at ho;conv=>whnf
   exact⟨(k+1,ps),⟨hg,ho,by dsimp only;omega,hV⟩,by(show l.length-(k+1)<l.length-k;omega),aq.keep ⟨ae,ae,ae,ae,ae,ae,⟨ax (k:=k) (by omega),rfl⟩,trivial⟩⟩
  |true =>
   rw[if_pos rfl]at ho;have hD:=hD rfl;conv=>whnf
   refine⟨_,aq.keep (sl:=[(0,.ptr 100034 0),(3,.ptr 3 0),(7,.ptr 100007 0),(12,.d (.slice 3 [aQ ad])),(15,.ptr 15 0),(85,.d (.slice 1 (l.map ed))),(86,.d (.int .i64 ((l.map ed).length:Int))),(87,.d (.int .i64 k))]) (h:=(3,.box ((bj x).map .d))::(15,.box ((aX c).map .d))::nc m++bH {o with aF:=ps}),?_⟩;conv=>whnf
   clear hC hF;have hB:=bU (pv' :=pvW) (lift (cx' :=iX) (eG x.name 1 o.aP [ad]) rfl rfl);have hS:=lift (cx' :=iX) (rU {o with aF:=ps} c x.name 1 o.aP [ad] hD (by simp) (λh=>js (hU (mq hD) (by simp)) h)) rfl rfl
   change FnP _ _ _ _ _ (nd _ (db o.since o.aN (bL c x.name 1 o.aP [ad])))at hS
   cases hq:db o.since o.aN (bL c x.name 1 o.aP [ad])with
   |none =>
    rw[hq]at hS ho;have hr:r=none:=by rw[hr, <- ho]
    subst hr
    (refine cu ?_;conv=>whnf)
    refine⟨[3,15,100007,100034,90032,90040,90041],_,hB,⟨rfl,rfl,rfl⟩,?_⟩;conv=>whnf
    refine aL ?_
    (conv=>arg 2;arg 1;reduce)
    conv=>whnf
    repeat (refine cO ?_;conv=>whnf)
    exact⟨[3,15,100007],_,hS,⟨by kernel_rfl,by kernel_rfl,by kernel_rfl⟩,rfl⟩
   |some z =>
   rw[hq]at hS ho;dsimp only at ho;have kq:=dz (iD hq);have kr:=lift (cx' :=iX) (kH {o with aF:=ps} z kq (by dsimp only;omega) (by dsimp only;omega) (by dsimp only;have:=hI z.af;omega)) rfl rfl
   (refine cu ?_;conv=>whnf)
   refine⟨[3,15,100007,100034,90032,90040,90041],_,hB,⟨rfl,rfl,rfl⟩,?_⟩;conv=>whnf
   refine aL ?_
   (conv=>arg 2;arg 1;reduce)
   conv=>whnf
   repeat (refine cO ?_;conv=>whnf)
   refine⟨[3,15,100007],_,hS,⟨by kernel_rfl,by kernel_rfl,by kernel_rfl⟩,?_⟩;conv=>whnf
   refine aL ?_
   (conv=>arg 2;arg 1;reduce)
   conv=>whnf
   repeat (refine cO ?_;conv=>whnf)
   refine⟨[3,15,100007],_,kr,⟨by kernel_rfl,by kernel_rfl,by kernel_rfl⟩,?_⟩;conv=>whnf
   refine aL ?_
   (conv=>arg 2;arg 1;reduce)
   conv=>whnf
   have kG:=Cl z o.w.ai;have kg:=hI z.af;exact⟨(k+1,ps++bT z o.w.ai++dL z (bW o.got z.af)),⟨hg,ho,by simp[dL];omega,λp hp=>by
    rw[List.append_assoc]at hp;rcases List.mem_append.1 hp with hp|hp
    .exact hV p hp
    .refine⟨tJ p hp,?_⟩;have e:p.ah=z:=by
      rcases List.mem_append.1 hp with h|h
      .unfold bT at h;obtain⟨q,_,rfl⟩:=List.mem_map.1 h;rfl
      .unfold dL at h;obtain⟨q,_,rfl⟩:=List.mem_map.1 h;rfl
     rw[e];exact kq.1⟩,by(show l.length-(k+1)<l.length-k;omega),aq.keep ⟨ae,ae,ae,ae,ae,ae,⟨ax (k:=k) (by omega),rfl⟩,trivial⟩⟩
 .obtain rfl:k=l.length:=by simp at h1;omega
  rw[List.drop_length]at ho;have ho:some ps=mh o x ad l []:=ho;rw[<- ho]at hr;have hT:=JY {o with aF:=ps} m (by dsimp only;omega) (by dsimp only;omega) hs (λa=>by have:=hI a;dsimp only;omega) (λp hp=>by have:=(hV p hp).2;omega) (λp hp=>(hV p hp).1);replace hr:r=some (xd {o with aF:=ps} m):=hr;rw[<- hr]at hT;conv at hT=>whnf
  exact fV hT (aq.keep)
theorem IQ(f:ao->Bool):∀(zs:List ao) (l:List Bs),l.Nodup->(zs.foldl (lj f) l).Nodup/\ ∀a∈zs.foldl (lj f) l,a∈l\/ ∃p∈zs,p.ah.af=a
 |[],l,h=>⟨h,λa ha=> .inl ha⟩
 |p::t,l,h=>by
  have h2:(lj f l p).Nodup:=by
   unfold lj;split
   .rename_i hc;simp only[aU,Bool.not_eq_true']at hc;rw[List.nodup_append];refine⟨h,by simp,λa ha b hb e=>?_⟩;rcases List.mem_singleton.1 hb with rfl;rw[e]at ha;rw[mc.2 ha]at hc;cases hc.2
   .exact h
  obtain⟨g1,g2⟩:=IQ f t (lj f l p) h2;refine⟨g1,λa ha=>?_⟩;rcases g2 a ha with h3|⟨q,hq,e⟩
  .unfold lj at h3;split at h3
   .rcases List.mem_append.1 h3 with h3|h3
    .exact .inl h3
    .rcases List.mem_singleton.1 h3 with rfl;exact .inr ⟨p,List.mem_cons_self .., rfl⟩
   .exact .inl h3
  .exact .inr ⟨q,bC _ hq,e⟩
theorem FB(w:aZ):∀(l:List ao) (g:List (Bs×List Int)) (a:Bs),bG a (dE w g l)≠none->bG a g≠none\/ ∃q∈l,q.ah.af=a
 |[],g,a,h=> .inl h
 |p::t,g,a,h=>by
  rcases FB w t (kv w g p) a h with h|⟨q,hq,e⟩
  .unfold kv at h;split at h
   .rw[qY]at h;split at h
    .rename_i e;exact .inr ⟨p,List.mem_cons_self .., e.symm⟩
    .exact .inl h
   .exact .inl h
  .exact .inr ⟨q,bC _ hq,e⟩
def eZ(o:bz)(host:Int)(l:List Bs):List ao:=(l.filter λa=> !o.w.ai.any (fb host a)).map λa=>⟨host,(bS o.w.ai a).1⟩
theorem Fz(o:bz)(host:Int)(l:List Bs):(eZ o host l).length<=l.length:=by
 unfold eZ;rw[aA];exact List.length_filter_le ..
theorem ET{zs:List ao}(hv:∀p∈zs,bf p.ah=true)(a:Bs):ZSm (bS zs a).1:=by
 rcases eW zs a with ⟨p,hp,hc,_⟩|⟨hc,_⟩
 .rw[hc];exact dz (hv p hp)
 .rw[hc];exact⟨by simp[iT],by simp[iT]⟩
theorem Nh(o:bz)(host:Int)(l:List Bs)(h:∀a∈l,∃p∈o.w.ai,p.ah.af=a):(eZ o host l).map (λp=>p.ah.af)=l.filter λa=> !o.w.ai.any (fb host a):=by
 unfold eZ;rw[List.map_map];conv=>rhs;rw[<- List.map_id (l.filter _)]
 refine List.map_congr_left λa ha=>?_
 have ha:=(List.mem_filter.1 ha).1;show(bS o.w.ai a).1.af=a
 rcases eW o.w.ai a with ⟨p,hp,hc,e⟩|⟨_,hc⟩
 .rw[hc];exact e
 .obtain⟨p,hp,e⟩:=h a ha;exact absurd e (hc p hp)
theorem SD(o:bz)(host:Int)(f:ao->Bool)(k:Nat)(p:ao)(hk:(eZ o host (dG f o.w.ai))[k]? =some p):bG p.ah.af (dE o.w [] ((eZ o host (dG f o.w.ai)).take k))=none:=by
 cases hc:bG p.ah.af (dE o.w [] ((eZ o host (dG f o.w.ai)).take k))with
 |none=>rfl
 |some v =>
  exfalso
  obtain⟨g1,g2⟩:=IQ f o.w.ai [] List.nodup_nil;have kt:=Nh o host (dG f o.w.ai) (λa ha=>by
   rcases g2 a ha with h|h
   .cases h
   .exact h)
  have kC:((eZ o host (dG f o.w.ai)).map (λp=>p.ah.af)).Nodup:=by rw[kt];exact List.Pairwise.filter _ g1
  rcases FB o.w _ [] p.ah.af (by rw[hc];simp)with h|⟨q,hq,e⟩
  .exact h rfl
  .obtain⟨j,hj⟩:=cQ hq;rw[List.getElem?_take]at hj;split at hj
   .rename_i kI;have h1:((eZ o host (dG f o.w.ai)).map (λp=>p.ah.af))[j]? =some p.ah.af:=by rw[bc,hj];simp[e]
    have h2:((eZ o host (dG f o.w.ai)).map (λp=>p.ah.af))[k]? =some p.ah.af:=by rw[bc,hk];rfl
    have hg:j<((eZ o host (dG f o.w.ai)).map (λp=>p.ah.af)).length:=(aB.1 h1).1;have:=(List.getElem?_inj hg kC).1 (h1.trans h2.symm);omega
   .cases hj
def En(o:bz)(x:bA)(host:Int)(m:List Int):Option bz:=ve (eH {o with aF:=eZ o host (dG (λp=>m.contains p.host) o.w.ai)}) x ⟨[],addrAt o.w host,0⟩ m
def tK(o:bz)(x:bA)(host:Int):Option bz:=if (wfR o.ah x.name 1).2=true then En o x host (oD (wfR o.ah x.name 1).1.data host 0 o.w.ay)else none
theorem OY(o:bz)(x:bA)(host:Int)(hx:x.ay=[host])(hw:bJ o.w host=true)(hv:∀p∈o.w.ai,bf p.ah=true)(hn:o.w.ai.length<=20)(kJ:o.w.ay.length<=1000)(kD:o.aF=[])(kK:o.bp.length<=50)(kc:o.got=[])(hz:bf o.ah=true) :
 FnP iX pvW 66 [.ptr 100034 0,.agg ((bj x).map .d)] (bH o) (jb (tK o x host)):=by
 refine bt [100007] PV Vi SP Tryz.func66 ?_;conv=>whnf
 obtain⟨r,hr⟩:∃r,r=tK o x host:=⟨_,rfl⟩
 rw[<- hr];have kh:(x.ay.map dj)[(0:Int).toNat]? =some (dj host):=by rw[hx];rfl
 refine⟨Int.le_refl 0,dj host,kh,?_⟩;conv=>whnf
 have hF:=ni o.ah x.name 1 (by have:=(dz hz).1;omega);have ka:=sk (s:=x.name) (k:=1) hz;unfold tK at hr;generalize wfR o.ah x.name 1=s at hF hr ka;obtain⟨s,b⟩:=s;dsimp only at hF hr ka
 (refine bV ?_;conv=>whnf)
 (refine⟨_,_,hF,?_⟩;conv=>whnf)
 refine⟨_,aq.keep (sl:=[(0,.ptr 100034 0),(3,.ptr 3 0),(4,.d (.int .i64 host)),(5,.ptr 5 0),(6,.d (.bool b))]) (h:=(3,.box ((bj x).map .d))::(5,.box ((cg s).map .d))::bH o),?_⟩;conv=>whnf
 clear hF;cases b with
 |false =>
  rw[if_neg (by decide)]at hr;subst hr;conv=>whnf
  have hF:=lift (cx' :=iX) (ku 4 (by decide)) rfl rfl;exact⟨[3,5,100034,90032,90040,90041],_,hF,⟨rfl,rfl,rfl⟩,rfl⟩
 |true =>
 rw[if_pos rfl]at hr;have ka:=ka rfl;conv=>whnf
 have hO:=lift (cx' :=iX) (Ga o s.data host (by omega) (by omega)) rfl rfl;generalize oD s.data host 0 o.w.ay=m at hO hr;refine⟨[3,5],_,hO,⟨by kernel_rfl,by kernel_rfl,by kernel_rfl⟩,?_⟩;conv=>whnf
 refine aL ?_;conv=>whnf
 refine⟨_,aq.trans (aq.name 7 100007 rfl rfl) (aq.keep (sl:=[(0,.ptr 100034 0),(3,.ptr 3 0),(4,.d (.int .i64 host)),(7,.ptr 100007 0)]) (h:=(3,.box ((bj x).map .d))::nc m++bH o)),?_⟩;conv=>whnf
 have hX:=lift (cx' :=iX) (Hh o m (by omega)) rfl rfl;have kd:=oi (λp=>m.contains p.host) o.w.ai;have kl:=SD o host (λp=>m.contains p.host);unfold En at hr;generalize dG (λp=>m.contains p.host) o.w.ai=l at hX kd hr kl;refine⟨[3],_,hX,⟨by kernel_rfl,by kernel_rfl,by kernel_rfl⟩,?_⟩;conv=>whnf
 refine aL ?_;conv=>whnf
 refine⟨Nat×List ao,λq=>⟨[(0,.ptr 100034 0),(3,.ptr 3 0),(4,.d (.int .i64 host)),(7,.ptr 100007 0),(45,.d (.slice 1 (l.map ed))),(46,.d (.int .i64 ((l.map ed).length:Int))),(47,.d (.int .i64 q.1))],(3,.box ((bj x).map .d))::nc m++bH {o with aF:=q.2}⟩,
  λq=>q.1<=l.length/\q.2++eZ o host (l.drop q.1)=eZ o host l/\q.2.length<=q.1,λq=>l.length-q.1,⟨(0,[]),⟨Nat.zero_le _,rfl,Nat.le_refl _⟩,aq.keep (by repeat' (first|exact trivial|refine⟨⟨rfl,rfl⟩,?_⟩)) ⟨⟨rfl,rfl⟩,⟨rfl,rfl⟩,⟨rfl,rfl⟩,⟨rfl,rfl⟩,⟨congrArg (λr:List ao=>some (Blk.row 45 3 (r.map aR))) kD,rfl⟩,⟨rfl,rfl⟩,trivial⟩⟩,?_⟩
 rintro⟨k,ps⟩ ⟨hk,ho,ki⟩;dsimp only at hk ho ki;conv=>whnf
 refine aj (λh1=>?_) (λh1=>?_) <;> (rw[h1];conv=>whnf)
 .have hg:k<l.length:=by simp at h1;omega
  obtain⟨a,hL⟩:∃a,l[k]? =some a:=⟨_,au hg⟩
  have hd:eZ o host (l.drop k)=(if (!o.w.ai.any (fb host a))=true then[⟨host,(bS o.w.ai a).1⟩]else[])++eZ o host (l.drop (k+1)):=by
   rw[drop_cons hL];unfold eZ;rw[List.filter_cons];split <;> rfl
  rw[hd, <- List.append_assoc]at ho;refine⟨aC k,ed a,aM hL,?_⟩;conv=>whnf
  have hC:=bU (pv' :=pvW) (lift (cx' :=iX) (kZ o.w host a (by omega)) rfl rfl);generalize o.w.ai.any (fb host a)=c at hC ho;refine⟨[3,100007,100034,90032,90040,90041],_,hC,⟨by kernel_rfl,by kernel_rfl,by kernel_rfl⟩,?_⟩;conv=>whnf
  refine aL ?_
  (conv=>arg 2;arg 1;reduce)
  conv=>whnf
  cases c with
  |true =>
   rw[if_neg (by decide),List.append_nil]at ho;conv=>whnf
   exact⟨(k+1,ps),⟨hg,ho,by dsimp only;omega⟩,by(show l.length-(k+1)<l.length-k;omega),aq.keep ⟨ae,ae,ae,ae,ae,ae,⟨ax (k:=k) (by omega),rfl⟩,trivial⟩⟩
  |false =>
   rw[if_pos (by decide)]at ho;conv=>whnf
   have hY:=bU (pv' :=pvW) (lift (cx' :=iX) (jm o.w a hv (by omega)) rfl rfl);have kf:=ET hv a;generalize bS o.w.ai a=c at hY kf ho;obtain⟨c,cb⟩:=c;dsimp only at hY kf ho;refine⟨[3,100007,100034,90032,90040,90041],_,hY,⟨by kernel_rfl,by kernel_rfl,by kernel_rfl⟩,?_⟩;conv=>whnf
   refine aL ?_
   (conv=>arg 2;arg 1;reduce)
   conv=>whnf
   have hP:=lift (cx' :=iX) (qp {o with aF:=ps} host c kf (by dsimp only;omega)) rfl rfl;refine⟨[3,10,100007],_,hP,⟨by kernel_rfl,by kernel_rfl,by kernel_rfl⟩,?_⟩;conv=>whnf
   refine aL ?_
   (conv=>arg 2;arg 1;reduce)
   conv=>whnf
   exact⟨(k+1,ps++[⟨host,c⟩]),⟨hg,ho,by simp;omega⟩,by(show l.length-(k+1)<l.length-k;omega),aq.keep ⟨ae,ae,ae,ae,ae,ae,⟨ax (k:=k) (by omega),rfl⟩,trivial⟩⟩
 .obtain rfl:k=l.length:=by simp at h1;omega
  rw[List.drop_length]at ho;have ho:ps=eZ o host l:=by rw[<- ho];exact(List.append_nil _).symm
  have hI:=Fz o host l;subst ho;have kj:∀p∈eZ o host l,p.ah.ak.length<=100000:=λp hp=>by
   unfold eZ at hp;obtain⟨a,_,rfl⟩:=List.mem_map.1 hp;have:=(ET hv a).1;dsimp only;omega
  have kg:∀a,bW o.got a=[]:=λa=>by rw[kc];rfl
  have hK:=lift (cx' :=iX) (Ae {o with aF:=eZ o host l} (by dsimp only;omega) (by dsimp only;omega) (by dsimp only;omega) (λk p _=>by
   have:=pg o.w ((eZ o host l).take k) o.got p.ah.af;rw[kg]at this;have h2:((eZ o host l).take k).length<=(eZ o host l).length:=by rw[List.length_take];omega
   simp only[List.length_nil]at this;show(bW (dE o.w o.got ((eZ o host l).take k)) p.ah.af).length<=100000
   omega) kj (λk p hk _=>by
   show bG p.ah.af (dE o.w o.got ((eZ o host l).take k))=none
   rw[kc];exact kl k p hk)) rfl rfl
  rw[Ac]at hK;refine⟨[3,100007],_,hK,⟨by kernel_rfl,by kernel_rfl,by kernel_rfl⟩,?_⟩;conv=>whnf
  refine aL ?_;conv=>whnf
  refine⟨_,aq.keep (sl:=[(0,.ptr 100034 0),(3,.ptr 3 0),(4,.d (.int .i64 host)),(7,.ptr 100007 0)]) (h:=(3,.box ((bj x).map .d))::nc m++bH (eH {o with aF:=eZ o host l})),?_⟩;conv=>whnf
  unfold bJ at hw;simp only[aU,decide_eq_true_eq]at hw;obtain⟨h,kn⟩:∃h,o.w.ay[host.toNat]? =some h:=⟨_,au (by omega)⟩
  have e2:addrAt o.w host=h.addr:=by unfold addrAt;rw[kn]
  rw[e2]at hr;refine⟨hw.1,fJ h,aM kn,?_⟩;conv=>whnf
  have hT:=JX (eH {o with aF:=eZ o host l}) x ⟨[],h.addr,0⟩ m hv hn rfl (by
   show(o.bp++_).length<=100
   rw[List.length_append];split <;> simp <;> omega) (λa=>by
   have:=pg o.w (eZ o host l) o.got a;rw[kg]at this;simp only[List.length_nil]at this;show(bW (dE o.w o.got (eZ o host l)) a).length<=20
   omega)
  rw[<- hr]at hT;conv at hT=>whnf
  exact fV hT (aq.keep)
end Go.Proofs.YtodofogcincleaaGreatDoor
