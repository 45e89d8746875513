/-
  Merged texts.
-/
import Derived.Test.YtodofogcincleaaGreatDoorMYka
set_option linter.all false
set_option maxRecDepth 100000
namespace Go.Proofs.YtodofogcincleaaGreatDoor
open NQ Go NP Go.RowKit
def zd(x:aY)(s:Signed):Bool:=decide (s.set.type=8)|| !(bl s.set.name x.name).1
def jF(s:Signed):Signed:=⟨s.set,[]⟩
def PI(o:aX)(x:aY):aB:=⟨x.name,(o.zone.sets.filter λs=> !zd x s).map jF⟩
def nW(o:aX)(x:aY)(st:ck):aB:=cn o.w o.life x.name x.hosts (bo (bo (bo (PI o x) x.name 2 o.life (cy o.w x.hosts)) x.name 4 st.life [⟨[],0,(gh st).m⟩]) x.name 7 o.life (keyOf x))
def vi(o:aX)(x:aY)(st:ck)(l:List Signed):Option aX:=match cG o.since o.till (cn o.w o.life x.name x.hosts (bo (bo (bo ⟨x.name,l.map jF⟩ x.name 2 o.life (cy o.w x.hosts)) x.name 4 st.life [⟨[],0,(gh st).m⟩]) x.name 7 o.life (keyOf x)))with
 |none=>none
 |some part=>nK o x part
def nj(o:aX)(x:aY):Option aX:=if (wfR o.zone x.zone 4).2=true then(match cG o.since o.till (nW o x (wfR o.zone x.zone 4).1)with
 |none=>none
 |some part=>nK o x part)else none
attribute [local irreducible] NQ.FnP
set_option maxHeartbeats 16000000 in
theorem JP(o:aX)(x:aY)(st:ck)(m:List Signed)(sv:List Datum)(d0:Datum)(hps:ZSm ⟨x.name,m⟩)(hpf:lg ⟨x.name,m⟩)(hget:(st.data.map aI)[(0:Int).toNat]? =some (aI d0))(hsl:sv.length=x.hosts.length)(hsn:sv≠[])(hsv:cy o.w x.hosts=sv)(hn:o.w.zones.length<=1000)(hl:x.hosts.length<=1000)(hl0:x.hosts≠[])(hh:∀n∈x.hosts,bk o.w n=true)(hp:o.puts=[])(hs:o.stages.length<=50)(hg0:o.got=[])(hz:aR o.zone=true)(r:Option aX)
 (hr:r=match cG o.since o.till (cn o.w o.life x.name x.hosts (bo (bo (bo ⟨x.name,m⟩ x.name 2 o.life sv) x.name 4 st.life [⟨[],0,d0.m⟩]) x.name 7 o.life (keyOf x)))with
  |none=>none
  |some part=>nK o x part) :
 vcp dX [100003,100004] pvW 135 DN (λ_=>ij r=none) ((fG 12 zG).getD .skip) (mT dX [100003,100004] JO (ij r))
  ⟨[(0,.ptr 100034 0),(3,.d (.ptr (aS x))),(4,.ptr 4 0),(5,.ptr 100004 0),(7,.d (.slice 3 (sv.map aI))),(8,mj x.hosts x.name)],eS ⟨x.name,m⟩++(4,.box ((bJ st).map .d))::gB o⟩:=by
 conv=>whnf
 refine⟨_,ah.refl _,?_⟩
 conv=>whnf
 have hS:=lift (cx' :=dX) (JF o ⟨x.name,m⟩ x.name 2 o.life sv 4 st.life [⟨[],0,d0.m⟩] 7 (keyOf x) x.name x.hosts hps hh hl (by omega) (by simp) (by simp[keyOf]) (λh=>iD (oq _ _ _ _ (gj (gj (gj hpf hsn) (by simp)) (by simp[keyOf]))) h)) rfl rfl;have hB2:=bB (pv' :=pvW) (lift (cx' :=dX) (dH x.name 2 o.life sv) rfl rfl);have hB4:=bB (pv' :=pvW) (lift (cx' :=dX) (dH x.name 4 st.life [⟨[],0,d0.m⟩]) rfl rfl);have hB7:=bB (pv' :=pvW) (lift (cx' :=dX) (dH x.name 7 o.life (keyOf x)) rfl rfl);have hK:=bB (pv' :=pvW) (lift (cx' :=dX) (nS x.key) rfl rfl)
 cases hq:cG o.since o.till (cn o.w o.life x.name x.hosts (bo (bo (bo ⟨x.name,m⟩ x.name 2 o.life sv) x.name 4 st.life [⟨[],0,d0.m⟩]) x.name 7 o.life (keyOf x)))with
 |none =>
  rw[hq]at hS hr;subst hr
  (refine⟨(by kernel_rfl:bA _=true),?_⟩;conv=>whnf)
  repeat' (first
  |(refine And.intro (by kernel_rfl:NQ.viewAt _ _ _ _=NQ.viewAt _ _ _ _) ?_;conv=>whnf)
  |(refine⟨Int.le_refl 0,aI d0,hget,?_⟩;conv=>whnf)
  |(refine⟨[4,100003,100004,100034,90032,90040,90041],_,hB2,⟨rfl,rfl,rfl⟩,?_⟩;(conv=>whnf);refine aA ?_;((conv=>arg 2;arg 1;reduce);(conv=>arg 2;arg 2;tactic=>(refine Eq.trans (b:=(100004,.box ((aG ⟨x.name,m⟩).map .d))::(4,.box ((bJ st).map .d))::gB o) ?_ rfl;kernel_rfl)));(conv=>whnf))
  |(refine⟨[4,100003,100004,100034,90032,90040,90041],_,hB4,⟨rfl,rfl,rfl⟩,?_⟩;(conv=>whnf);refine aA ?_;((conv=>arg 2;arg 1;reduce);(conv=>arg 2;arg 2;tactic=>(refine Eq.trans (b:=(100004,.box ((aG ⟨x.name,m⟩).map .d))::(4,.box ((bJ st).map .d))::gB o) ?_ rfl;kernel_rfl)));(conv=>whnf))
  |(refine⟨[4,100003,100004,100034,90032,90040,90041],_,hK,⟨rfl,rfl,rfl⟩,?_⟩;(conv=>whnf);refine aA ?_;((conv=>arg 2;arg 1;reduce);(conv=>arg 2;arg 2;tactic=>(refine Eq.trans (b:=(100004,.box ((aG ⟨x.name,m⟩).map .d))::(4,.box ((bJ st).map .d))::gB o) ?_ rfl;kernel_rfl)));(conv=>whnf))
  |(refine⟨[4,100003,100004,100034,90032,90040,90041],_,hB7,⟨rfl,rfl,rfl⟩,?_⟩;(conv=>whnf);refine aA ?_;((conv=>arg 2;arg 1;reduce);(conv=>arg 2;arg 2;tactic=>(refine Eq.trans (b:=(100004,.box ((aG ⟨x.name,m⟩).map .d))::(4,.box ((bJ st).map .d))::gB o) ?_ rfl;kernel_rfl)));(conv=>whnf))
  |exact⟨[4,100004],_,hS,⟨by kernel_rfl,by kernel_rfl,by kernel_rfl⟩,rfl⟩
  |(refine And.intro ?_ ?_ <;> (conv=>whnf)))
 |some part =>
 rw[hq]at hS hr;dsimp only at hr;have hz1:=cU (gO hq);have hT:=Gh o x part hz1 hn hl hl0 hh hp hs hg0 hz;rw[hsv, <- hr]at hT
 conv at hT=>whnf
 (refine⟨(by kernel_rfl:bA _=true),?_⟩;conv=>whnf)
 repeat' (first
  |(refine And.intro (by kernel_rfl:NQ.viewAt _ _ _ _=NQ.viewAt _ _ _ _) ?_;conv=>whnf)
  |(refine⟨Int.le_refl 0,aI d0,hget,?_⟩;conv=>whnf)
  |(refine⟨[4,100003,100004,100034,90032,90040,90041],_,hB2,⟨rfl,rfl,rfl⟩,?_⟩;(conv=>whnf);refine aA ?_;((conv=>arg 2;arg 1;reduce);(conv=>arg 2;arg 2;tactic=>(refine Eq.trans (b:=(100004,.box ((aG ⟨x.name,m⟩).map .d))::(4,.box ((bJ st).map .d))::gB o) ?_ rfl;kernel_rfl)));(conv=>whnf))
  |(refine⟨[4,100003,100004,100034,90032,90040,90041],_,hB4,⟨rfl,rfl,rfl⟩,?_⟩;(conv=>whnf);refine aA ?_;((conv=>arg 2;arg 1;reduce);(conv=>arg 2;arg 2;tactic=>(refine Eq.trans (b:=(100004,.box ((aG ⟨x.name,m⟩).map .d))::(4,.box ((bJ st).map .d))::gB o) ?_ rfl;kernel_rfl)));(conv=>whnf))
  |(refine⟨[4,100003,100004,100034,90032,90040,90041],_,hK,⟨rfl,rfl,rfl⟩,?_⟩;(conv=>whnf);refine aA ?_;((conv=>arg 2;arg 1;reduce);(conv=>arg 2;arg 2;tactic=>(refine Eq.trans (b:=(100004,.box ((aG ⟨x.name,m⟩).map .d))::(4,.box ((bJ st).map .d))::gB o) ?_ rfl;kernel_rfl)));(conv=>whnf))
  |(refine⟨[4,100003,100004,100034,90032,90040,90041],_,hB7,⟨rfl,rfl,rfl⟩,?_⟩;(conv=>whnf);refine aA ?_;((conv=>arg 2;arg 1;reduce);(conv=>arg 2;arg 2;tactic=>(refine Eq.trans (b:=(100004,.box ((aG ⟨x.name,m⟩).map .d))::(4,.box ((bJ st).map .d))::gB o) ?_ rfl;kernel_rfl)));(conv=>whnf))
  |(refine⟨[4,100004],_,hS,⟨by kernel_rfl,by kernel_rfl,by kernel_rfl⟩,?_⟩;(conv=>whnf);refine aA ?_;((conv=>arg 2;arg 1;reduce);(conv=>arg 2;arg 2;tactic=>(refine Eq.trans (b:=(100004,.box ((aG ⟨x.name,m⟩).map .d))::(4,.box ((bJ st).map .d))::gB o) ?_ rfl;kernel_rfl)));(conv=>whnf))
  |(refine And.intro ?_ ?_ <;> (conv=>whnf)))
 all_goals exact eT hT (ah.keep)
set_option maxHeartbeats 8000000 in
theorem Mm(o:aX)(x:aY)(st:ck)(l:List Signed)(hfs:ZSm ⟨x.name,l⟩)(hff:lg ⟨x.name,l⟩)(hne:st.data≠[])(hn:o.w.zones.length<=1000)(hl:x.hosts.length<=1000)(hl0:x.hosts≠[])(hh:∀n∈x.hosts,bk o.w n=true)(hp:o.puts=[])(hs:o.stages.length<=50)(hg0:o.got=[])(hz:aR o.zone=true) :
 vcp dX [100003,100004] pvW 135 DN (λ_=>ij (vi o x st l)=none) ((fG 5 zG).getD .skip) (mT dX [100003,100004] JO (ij (vi o x st l)))
  ⟨[(0,.ptr 100034 0),(3,.d (.ptr (aS x))),(4,.ptr 4 0),(5,.ptr 100004 0)],eS ⟨x.name,l⟩++(4,.box ((bJ st).map .d))::bg o⟩:=by
 conv=>whnf
 refine⟨_,ah.refl _,?_⟩
 conv=>whnf
 obtain⟨r,hr⟩:∃r,r=vi o x st l:=⟨_,rfl⟩
 rw[<- hr];have hll:l.length<=20000:=hfs.1;refine⟨Nat,λk=>⟨[(0,.ptr 100034 0),(3,.d (.ptr (aS x))),(4,.ptr 4 0),(5,.ptr 100004 0),(32,.d (.int .i64 ((l.map ak).length:Int))),(33,.d (.int .i64 k))],eS ⟨x.name,(l.take k).map jF++l.drop k⟩++(4,.box ((bJ st).map .d))::bg o⟩,
  λk=>k<=l.length,λk=>l.length-k,⟨0,Nat.zero_le _,ah.keep⟩,λk hk=>?_⟩
 conv=>whnf
 refine af (λh1=>?_) (λh1=>?_) <;> (rw[h1];conv=>whnf)
 . have hlt:k<l.length:=by simp at h1;omega
   obtain⟨s,hsk⟩:∃s,l[k]? =some s:=⟨_,aj hlt⟩
   refine⟨aw k,by simp;omega,?_⟩
   conv=>whnf
   have hcat:(((l.take k).map jF++l.drop k).map ak)[k]? =some (ak s):=by
    rw[aN,bX (by simp;omega)];simp[Nat.min_eq_left (Nat.le_of_lt hlt),hsk]
   refine⟨ak s,hcat,?_⟩
   conv=>whnf
   have e:(((l.take k).map jF++l.drop k).map ak).set k (ak (jF s))=((l.take (k+1)).map jF++l.drop (k+1)).map ak:=by
    rw[<- List.map_set,List.set_append_right _ _ (by simp;omega),drop_cons hsk,List.take_add_one,hsk];simp[Nat.min_eq_left (Nat.le_of_lt hlt)]
   exact⟨k+1,hlt,by(show l.length-(k+1)<l.length-k;omega),ah.keep ⟨ae,ae,ae,ae,ae,⟨an (k:=k) (by omega),rfl⟩,trivial⟩ ⟨ae,⟨congrArg (λr=>some (Blk.row 68 5 r)) e,rfl⟩,ae,ae,ae,ae,ae,trivial⟩⟩
 . obtain rfl:k=l.length:=by simp at h1;omega
   have e:((l.take l.length).map jF++l.drop l.length).map ak=(l.map jF).map ak:=by rw[List.take_length,List.drop_length,List.append_nil]
   refine⟨_,ah.keep (sl:=[(0,.ptr 100034 0),(3,.d (.ptr (aS x))),(4,.ptr 4 0),(5,.ptr 100004 0)]) (h:=eS ⟨x.name,l.map jF⟩++(4,.box ((bJ st).map .d))::bg o) (by repeat' (first|exact trivial|refine⟨⟨rfl,rfl⟩,?_⟩)) ⟨⟨rfl,rfl⟩,⟨congrArg (λr=>some (Blk.row 68 5 r)) e,rfl⟩,⟨rfl,rfl⟩,⟨rfl,rfl⟩,⟨rfl,rfl⟩,⟨rfl,rfl⟩,⟨rfl,rfl⟩,trivial⟩,?_⟩;unfold vi at hr;have hps:ZSm ⟨x.name,l.map jF⟩:=⟨by show(l.map jF).length<=_;rw[ao];exact hfs.1,λs h=>by
    obtain⟨q,hq,rfl⟩:=List.mem_map.1 h;exact⟨(hfs.2 q hq).1,by simp[jF]⟩⟩
   have hpf:lg ⟨x.name,l.map jF⟩:=λs h=>by
    obtain⟨q,hq,rfl⟩:=List.mem_map.1 h;exact hff q hq
   generalize l.map jF=m at hps hpf hr ⊢
   conv=>whnf
   have hsl:=rF o.w x.hosts;have hsn:cy o.w x.hosts≠[]:=λe=>by rw[e]at hsl;exact hl0 (List.eq_nil_of_length_eq_zero hsl.symm)
   have hV:=bB (pv' :=pvW) (lift (cx' :=dX) (rE o.w x.hosts hl hh) rfl rfl);obtain⟨d0,dt,hdat⟩:∃d t,st.data=d::t:=by
    cases hc:st.data with
    |nil=>exact absurd hc hne
    |cons d t=>exact⟨d,t,rfl⟩
   have hd0:gh st=d0:=by unfold gh;rw[hdat]
   have hget:(st.data.map aI)[(0:Int).toNat]? =some (aI d0):=by rw[hdat];rfl
   rw[hd0]at hr;generalize hsv:cy o.w x.hosts=sv at hsl hsn hV hr
   (refine⟨(by kernel_rfl:bA _=true),?_⟩;conv=>whnf)
   refine⟨[4,100004,90020,100034,90032,90040,90041],_,hV,⟨rfl,rfl,rfl⟩,?_⟩
   conv=>whnf
   refine aA ?_
   (conv=>arg 2;arg 1;reduce);(conv=>arg 2;arg 2;tactic=>(refine Eq.trans (b:=eS ⟨x.name,m⟩++(4,.box ((bJ st).map .d))::bg o) ?_ rfl;kernel_rfl))
   conv=>whnf
   repeat (refine And.intro (by kernel_rfl:NQ.viewAt _ _ _ _=NQ.viewAt _ _ _ _) ?_;conv=>whnf)
   have hG:=bB (pv' :=pvW) (lift (cx' :=dX) (DP o x.name x.hosts) rfl rfl);refine⟨[4,100004,90020],_,hG,⟨rfl,rfl,rfl⟩,?_⟩
   conv=>whnf
   refine aA ?_
   (conv=>arg 2;arg 1;reduce)
   conv=>whnf
   have hT:=JP o x st m sv d0 hps hpf hget hsl hsn hsv hn hl hl0 hh hp hs hg0 hz r hr
   conv at hT=>whnf
   exact eT hT (ah.trans (ah.name 90003 100003 rfl rfl) (ah.keep))
set_option maxHeartbeats 8000000 in
theorem Ml(o:aX)(x:aY)(hn:o.w.zones.length<=1000)(hl:x.hosts.length<=1000)(hl0:x.hosts≠[])(hh:∀n∈x.hosts,bk o.w n=true)(hp:o.puts=[])(hs:o.stages.length<=50)(hg0:o.got=[])(hz:aR o.zone=true) :
 FnP dX pvW 67 [.ptr 100034 0,.agg ((aS x).map .d)] (bg o) (ij (nj o x)):=by
 refine aT [100003,100004] DN Te QM Tryz.func67 (by kernel_rfl) rfl (ag rfl) (ag rfl) rfl ?_
 conv=>whnf
 obtain⟨r,hr⟩:∃r,r=nj o x:=⟨_,rfl⟩
 rw[<- hr];unfold nj at hr;have hN:=tg o.zone x.zone 4 (by have:=(cU hz).1;omega);have hne:=iD (s:=x.zone) (k:=4) (ln hz);generalize wfR o.zone x.zone 4=st at hN hr hne;obtain⟨st,b⟩:=st;dsimp only at hN hr hne;cases b with
 |false =>
  rw[if_neg (by decide)]at hN hr;have hN:=lift (cx' :=dX) hN rfl rfl;subst hr
  (refine⟨(by kernel_rfl:bA _=true),?_⟩;conv=>whnf)
  repeat' (first
   |exact⟨[3,100034,90032,90040,90041],_,hN,⟨rfl,rfl,rfl⟩,rfl⟩
   |exact⟨[3,4,100034,90032,90040,90041],_,hN,⟨rfl,rfl,rfl⟩,rfl⟩
   |(refine And.intro (by kernel_rfl:NQ.viewAt _ _ _ _=NQ.viewAt _ _ _ _) ?_;conv=>whnf)
   |(refine And.intro ?_ ?_ <;> (conv=>whnf)))
 |true =>
 rw[if_pos rfl]at hN hr;have hN:=lift (cx' :=dX) hN rfl rfl;have hne:=hne rfl;apply rV (α:=Unit) (P:=λ_=>True) (canon:=λ_=>⟨[(0,.ptr 100034 0),(3,.ptr 3 0),(4,.ptr 4 0)],(3,.box ((aS x).map .d))::(4,.box ((bJ st).map .d))::bg o⟩)
 . intro rest
   (refine⟨(by kernel_rfl:bA _=true),?_⟩;conv=>whnf)
   repeat' (first
    |(refine And.intro (by kernel_rfl:NQ.viewAt _ _ _ _=NQ.viewAt _ _ _ _) ?_;conv=>whnf)
    |(refine⟨[3,100034,90032,90040,90041],_,hN,⟨rfl,rfl,rfl⟩,?_⟩;(conv=>whnf);refine aA ?_;(conv=>whnf))
    |(refine⟨[3,4,100034,90032,90040,90041],_,hN,⟨rfl,rfl,rfl⟩,?_⟩;(conv=>whnf);refine aA ?_;(conv=>whnf))
    |(refine And.intro ?_ ?_ <;> (conv=>whnf)))
   all_goals exact mB (ah.keep) (rest () trivial)
 rintro _ _;unfold App
 conv=>whnf
 clear hN;have hC:=bB (pv' :=pvW) (lift (cx' :=dX) (jt o.zone (by have:=(cU hz).1;omega) (cU hz).2) rfl rfl);refine⟨[3,4,100034,90032,90040,90041],_,hC,⟨rfl,rfl,rfl⟩,?_⟩
 conv=>whnf
 refine aA ?_
 conv=>whnf
 refine⟨_,ah.trans (ah.name 5 100004 rfl rfl) (ah.keep (sl:=[(0,.ptr 100034 0),(3,.ptr 3 0),(4,.ptr 4 0),(5,.ptr 100004 0)]) (h:=eS ⟨x.name,o.zone.sets⟩++(3,.box ((aS x).map .d))::(4,.box ((bJ st).map .d))::bg o)),?_⟩
 conv=>whnf
 have hW:=bB (pv' :=pvW) (lift (cx' :=dX) (xd 133 x) rfl rfl);have hW1:=bB (pv' :=pvW) (lift (cx' :=dX) (vv ⟨x.name,o.zone.sets⟩ (zd x) 133 x (by have:=(cU hz).1;dsimp only;omega) (λs=>Gw s x)) rfl rfl);refine⟨[4,100004,90020,100034,90032,90040,90041],_,hW,⟨by kernel_rfl,by kernel_rfl,by kernel_rfl⟩,?_⟩
 conv=>whnf
 refine aA ?_
 (conv=>arg 2;arg 1;reduce)
 conv=>whnf
 refine⟨[4,100034,90032,90040,90041],_,hW1,⟨by kernel_rfl,by kernel_rfl,by kernel_rfl⟩,?_⟩
 conv=>whnf
 refine aA ?_
 (conv=>arg 2;arg 1;reduce)
 conv=>whnf
 have hfs:ZSm ⟨x.name,o.zone.sets.filter λs=> !zd x s⟩:=⟨Nat.le_trans (List.length_filter_le ..) (cU hz).1,λs h=>(cU hz).2 s (List.mem_filter.1 h).1⟩
 have hff:lg ⟨x.name,o.zone.sets.filter λs=> !zd x s⟩:=λs h=>ln hz s (List.mem_filter.1 h).1
 have hT:=Mm o x st _ hfs hff hne hn hl hl0 hh hp hs hg0 hz;replace hr:r=vi o x st (o.zone.sets.filter λs=> !zd x s):=hr;rw[<- hr]at hT
 conv at hT=>whnf
 exact eT hT (ah.keep)
theorem NT(l:List Datum)(p:Datum->Bool)(x:D)(hn:l.length<=100000)(hf:∀s∈l,NQ.Fn cx 191 [.agg (aI s),x] (.d (.bool (p s))) []) :
 NQ.Fn cx 239 [.slice 3 (l.map aI),.fn 191 [] [x]] (.d (.int .i64 (match l.findIdx? p with|some k=>(k:Int)|none=> -1))) []:=by
 refine aM aV mixed Tryz.func239 (by kernel_rfl) rfl (ag rfl) ?_;conv=>whnf
 refine⟨Nat,λk=>⟨[(0,.d (.slice 3 (l.map aI))),(1,.d (.fn 191 [] [x])),(7,.d (.int .i64 ((l.map aI).length:Int))),(8,.d (.int .i64 k))],[]⟩,λk=>k<=l.length/\ ∀j y,j<k->l[j]? =some y->p y=false,λk=>l.length-k,
  ⟨0,⟨by omega,λj y h=>by omega⟩,aF.keep ⟨ae,ae,ae,ae,trivial⟩ trivial⟩,λk hk=>?_⟩
 obtain⟨hk,hall⟩:=hk
 conv=>whnf
 refine af (λh1=>?_) (λh1=>?_) <;> (rw[h1];conv=>whnf)
 . have hlt:k<l.length:=by simp at h1;omega
   obtain⟨s,hs⟩:∃s,l[k]? =some s:=⟨_,aj hlt⟩
   refine⟨aw k,aI s,aD hs,?_⟩
   conv=>whnf
   (refine⟨_,_,hf s (ar hs),?_⟩;conv=>whnf)
   refine af (λh2=>?_) (λh2=>?_) <;> (rw[h2];conv=>whnf)
   . refine al rfl ?_;have:l.findIdx? p=some k:=by
      rw[List.findIdx?_eq_some_iff_getElem];obtain⟨g1,g2⟩:=aq.1 hs;refine⟨g1,by rw[g2];exact h2,λj hj=>?_⟩;have:=hall j (l[j]) hj (aj (by omega));rw[this];decide
     rw[this];rfl
   . refine⟨k+1,⟨hlt,λj y hj hy=>?_⟩,by(show l.length-(k+1)<l.length-k;omega),aF.keep ⟨ae,ae,ae,⟨an (by omega),rfl⟩,trivial⟩ trivial⟩;rcases Nat.lt_succ_iff_lt_or_eq.1 hj with hj|rfl
     . exact hall j y hj hy
     . rw[hs]at hy;cases hy;exact h2
 . obtain rfl:k=l.length:=by simp at h1;omega
   refine al rfl ?_;have:l.findIdx? p=none:=by
    rw[List.findIdx?_eq_none_iff];intro x hx;obtain⟨i,hi⟩:=cd hx;exact hall i x (aq.1 hi).1 hi
   rw[this];rfl
theorem QS(d:Datum)(h:jn):NQ.Fn cx 191 [.agg (aI d),.ptr (eN h)] (.d (.bool (d.n==h.addr))) []:=by
 refine aM aV mixed Tryz.func191 (by kernel_rfl) rfl (ag rfl) ?_;conv=>whnf
 exact al rfl rfl
theorem MO(l:List Datum)(p:Datum->Bool)(x:D)(hn:l.length<=100000)(hf:∀s∈l,NQ.Fn cx 191 [.agg (aI s),x] (.d (.bool (p s))) []) :
 NQ.Fn cx 190 [.slice 3 (l.map aI),.fn 191 [] [x]] (.d (.bool (l.any p))) []:=by
 refine aM aV mixed Tryz.func190 (by kernel_rfl) rfl (ag rfl) ?_;conv=>whnf
 (refine⟨_,_,NT l p x hn hf,?_⟩;conv=>whnf)
 refine al rfl ?_;exact congrArg (λb=>AV.d (D.bool b)) (wE p l)
def vL(data:List Datum)(but:Int)(i:Nat)(h:jn):Bool:=((i:Int) != but)&&data.any λd=>d.n==h.addr
def nf(data:List Datum)(but:Int):Nat->List jn->List Int
 |_,[]=>[]
 |i,h::t=>(if vL data but i h=true then[(i:Int)]else[])++nf data but (i+1) t
noncomputable def Ns:Cx:={cx with bld:=[]}
theorem Tc:ba Ns:=aV
theorem QK:Ns.P.follows .mixedOrders=true:=mixed
set_option maxHeartbeats 4000000 in
theorem Em(o:aX)(data:List Datum)(but:Int)(hd:data.length<=100000)(hh:o.w.hosts.length<=100000):FnP Ns pvW 127 [.ptr 100034 0,.d (.slice 3 (data.map aI)),.d (.int .i64 but)] (bg o) (some (.d (.kmap (dg (nf data but 0 o.w.hosts))),bg o)):=by
 refine aT [] (fun|5=>[9]|_=>[]) Tc QK Tryz.func127 (by kernel_rfl) rfl (ag rfl) (ag rfl) rfl ?_
 conv=>whnf
 refine⟨Nat×List Int,λq=>⟨[(0,.ptr 100034 0),(1,.d (.slice 3 (data.map aI))),(2,.d (.int .i64 but)),(7,.omap 10),(15,.d (.slice 3 (o.w.hosts.map eN))),(16,.d (.int .i64 ((o.w.hosts.map eN).length:Int))),(17,.d (.int .i64 q.1))],(10,.kmap (dg q.2))::bg o⟩,
  λq=>q.1<=o.w.hosts.length/\q.2++nf data but q.1 (o.w.hosts.drop q.1)=nf data but 0 o.w.hosts/\ ∀v∈q.2,v<(q.1:Int),λq=>o.w.hosts.length-q.1,⟨(0,[]),⟨Nat.zero_le _,rfl,λv h=>by cases h⟩,ah.keep⟩,?_⟩
 rintro⟨k,m⟩ ⟨hk,hm,hlt0⟩;dsimp only at hk hm hlt0
 conv=>whnf
 refine af (λh1=>?_) (λh1=>?_) <;> (rw[h1];conv=>whnf)
 . have hlt:k<o.w.hosts.length:=by simp at h1;omega
   obtain⟨h,hhk⟩:∃h,o.w.hosts[k]? =some h:=⟨_,aj hlt⟩
   rw[drop_cons hhk]at hm;have hm:m++((if vL data but k h=true then[(k:Int)]else[])++nf data but (k+1) (o.w.hosts.drop (k+1)))=nf data but 0 o.w.hosts:=hm;rw[<- List.append_assoc]at hm;refine⟨aw k,eN h,aD hhk,?_⟩
   conv=>whnf
   have skip:vL data but k h=false->m++nf data but (k+1) (o.w.hosts.drop (k+1))=nf data but 0 o.w.hosts:=λe=>by rw[if_neg (by rw[e];decide),List.append_nil]at hm;exact hm
   have keepk:∀v∈m,v<((k+1:Nat):Int):=λv h=>by have:=hlt0 v h;omega
   refine af (λh2=>?_) (λh2=>?_) <;> (rw[h2];conv=>whnf)
   . (refine⟨_,_,MO data (λd=>d.n==h.addr) (.ptr (eN h)) hd (λd _=>QS d h),?_⟩;conv=>whnf)
     cases hc:data.any (λd=>d.n==h.addr)with
     |true =>
      conv=>whnf
      have hnc:m.contains (k:Int)=false:=by
       rw[<- Bool.not_eq_true,la];intro h;have:=hlt0 _ h;omega
      rw[if_pos (by unfold vL;rw[hc,jm];exact h2)]at hm;refine⟨_,CP hnc,?_⟩
      conv=>whnf
      exact⟨(k+1,m++[(k:Int)]),⟨hlt,hm,λv h=>by
       rcases List.mem_append.1 h with h|h
       . exact keepk v h
       . rcases List.mem_singleton.1 h with rfl;dsimp only;omega⟩,by(show o.w.hosts.length-(k+1)<o.w.hosts.length-k;omega),ah.keep ⟨ae,ae,ae,ae,ae,ae,⟨an (k:=k) (by omega),rfl⟩,trivial⟩⟩
     |false =>
      conv=>whnf
      exact⟨(k+1,m),⟨hlt,skip (by unfold vL;rw[hc,kZ]),keepk⟩,by(show o.w.hosts.length-(k+1)<o.w.hosts.length-k;omega),ah.keep ⟨ae,ae,ae,ae,ae,ae,⟨an (k:=k) (by omega),rfl⟩,trivial⟩⟩
   . exact⟨(k+1,m),⟨hlt,skip (by unfold vL;rw[show((k:Int) != but)=false from h2];rfl),keepk⟩,by(show o.w.hosts.length-(k+1)<o.w.hosts.length-k;omega),ah.keep ⟨ae,ae,ae,ae,ae,ae,⟨an (k:=k) (by omega),rfl⟩,trivial⟩⟩
 . obtain rfl:k=o.w.hosts.length:=by simp at h1;omega
   rw[List.drop_length]at hm;have hm:m=nf data but 0 o.w.hosts:=by rw[<- hm];exact(List.append_nil _).symm
   subst hm;exact fo (ah.rq [10]) rfl rfl rfl
abbrev bt(s:Bs):List D:=[.str s]
theorem Lp(l:List Bs)(x:Bs)(hl:l.length<=100000):NQ.Fn cx 240 [.slice 1 (l.map bt),.str x] (.d (.int .i64 (match l.findIdx? (· ==x)with|some k=>(k:Int)|none=> -1))) []:=by
 refine aM aV mixed Tryz.func240 (by kernel_rfl) rfl (ag rfl) ?_;conv=>whnf
 refine⟨Nat,λk=>⟨[(0,.d (.slice 1 (l.map bt))),(1,.d (.str x)),(7,.d (.int .i64 ((l.map bt).length:Int))),(8,.d (.int .i64 k))],[]⟩,λk=>k<=l.length/\ ∀j y,j<k->l[j]? =some y->(y==x)=false,λk=>l.length-k,
  ⟨0,⟨by omega,λj y h=>by omega⟩,aF.keep ⟨ae,ae,ae,ae,trivial⟩ trivial⟩,λk ⟨hk,hall⟩=>?_⟩
 conv=>whnf
 refine af (λh1=>?_) (λh1=>?_) <;> (rw[h1];conv=>whnf)
 . have hlt:k<l.length:=by simp at h1;omega
   obtain⟨y,hy⟩:∃s,l[k]? =some s:=⟨_,aj hlt⟩
   refine⟨aw k,bt y,aD hy,?_⟩
   conv=>whnf
   (refine af (λh=>?_) (λh=>?_) <;> (rw[h];conv=>whnf))
   . refine al rfl ?_;have:l.findIdx? (· ==x)=some k:=by
      rw[List.findIdx?_eq_some_iff_getElem];refine⟨hlt,?_,λj hj=>?_⟩
      . obtain⟨_,e⟩:=aq.1 hy;rw[e];simp at h ⊢;exact h.symm
      . have:=hall j l[j] hj (aj (by omega));simpa using this
     rw[this];rfl
   . refine⟨k+1,⟨hlt,λj z hj hz=>?_⟩,by(show l.length-(k+1)<l.length-k;omega),aF.keep ⟨ae,ae,ae,⟨an (by omega),rfl⟩,trivial⟩ trivial⟩;rcases Nat.lt_or_eq_of_le (Nat.le_of_lt_succ hj)with h2|rfl
     . exact hall j z h2 hz
     . rw[hy]at hz;cases hz;simp at h ⊢;exact λe=>h e.symm
 . obtain rfl:k=l.length:=by simp at h1;omega
   refine al rfl ?_;have:l.findIdx? (· ==x)=none:=by
    rw[List.findIdx?_eq_none_iff];intro y hy;obtain⟨j,hj⟩:=cd hy;exact hall j y (aq.1 hj).1 hj
   rw[this];rfl
theorem ug(l:List Bs)(x:Bs)(hl:l.length<=100000):NQ.Fn cx 192 [.slice 1 (l.map bt),.str x] (.d (.bool (l.contains x))) []:=by
 refine aM aV mixed Tryz.func192 (by kernel_rfl) rfl (ag rfl) ?_;conv=>whnf
 (refine⟨_,_,Lp l x hl,?_⟩;conv=>whnf)
 refine al rfl ?_;show AV.d (D.bool (decide ((match l.findIdx? (· ==x)with|some k=>(k:Int)|none=> -1)>=0)))=_
 congr 2
 cases h:l.findIdx? (· ==x)with
 |some k =>
  obtain⟨h1,h2,_⟩:=List.findIdx?_eq_some_iff_getElem.1 h;have:l.contains x=true:=by
   rw[la];have e:l[k]=x:=by simpa using h2
   exact e ▸ List.getElem_mem h1
  rw[this,decide_eq_true];exact aw k
 |none =>
  have:l.contains x=false:=by
   rw[<- Bool.not_eq_true,la];intro hm;have:=List.findIdx?_eq_none_iff.1 h x hm;simp at this
  rw[this];rfl
def kr(f:ai->Bool)(l:List Bs)(p:ai):List Bs:=if (f p&& !l.contains p.zone.apex)=true then l++[p.zone.apex]else l
def cT(f:ai->Bool)(zs:List ai):List Bs:=zs.foldl (kr f) []
theorem CR{f:ai->Bool}{zs:List ai}{k:Nat}{p:ai}(h:zs[k]? =some p):cT f (zs.take (k+1))=kr f (cT f (zs.take k)) p:=by
 unfold cT;rw[List.take_add_one,h,List.foldl_append];rfl
theorem nw(f:ai->Bool)(zs:List ai):(cT f zs).length<=zs.length:=by
 have:∀(zs:List ai) (l:List Bs),(zs.foldl (kr f) l).length<=l.length+zs.length:=λzs=>by
  induction zs with
  |nil=>intro l;exact Nat.le_refl _
  |cons p t ih =>
   intro l;have h1:=ih (kr f l p);have h2:(kr f l p).length<=l.length+1:=by
    unfold kr;split
    . simp
    . omega
   show(t.foldl (kr f) (kr f l p)).length<=_
   simp only[List.length_cons];omega
 have:=this zs [];simpa [cT] using this
noncomputable def Ag:Cx:={cx with chg:=fY [(129,9),(130,9)],bld:=[33]}
theorem JZ:ba Ag:=aV
theorem vQ:Ag.P.follows .mixedOrders=true:=mixed
abbrev mq(l:List Int):List (Nat×Blk):=[(100007,.box [.d (.kmap (dg l))])]
theorem Kt(l:List Int)(p:ai):FnP Ag pvW 129 [.agg ((aC p).map .d),.ptr 100007 0] (mq l) (some (.d (.bool (l.contains p.host)),mq l)):=by
 refine aT [] (fun|_=>[]) JZ vQ Tryz.func129 (by kernel_rfl) rfl (ag rfl) (ag rfl) rfl ?_
 conv=>whnf
 refine⟨_,oe p.host l,?_⟩;cases l.contains p.host with
 |true =>
  conv=>whnf
  exact bF rfl rfl rfl
 |false =>
  conv=>whnf
  exact bF rfl rfl rfl
theorem Ku(p:ai):FnP Ag pvW 130 [.agg ((aC p).map .d)] [] (some (.d (.bool true),[])):=by
 refine aT [] (fun|_=>[]) JZ vQ Tryz.func130 (by kernel_rfl) rfl (ag rfl) (ag rfl) rfl ?_
 conv=>whnf
 exact gW rfl rfl rfl
set_option maxHeartbeats 4000000 in
theorem Fs(o:aX)(m:List Int)(hn:o.w.zones.length<=1000):FnP Ag pvW 128 [.ptr 100034 0,.fn 129 [] [.ptr 100007 0]] (mq m++bg o) (some (.d (.slice 1 ((cT (λp=>m.contains p.host) o.w.zones).map bt)),mq m++bg o)):=by
 refine aT [] (fun|5=>[33333]|_=>[]) JZ vQ Tryz.func128 (by kernel_rfl) rfl (ag rfl) (ag rfl) rfl ?_
 conv=>whnf
 refine⟨Nat,λk=>⟨[(0,.ptr 100034 0),(1,.fn 129 [] [.ptr 100007 0]),(5,.own 55),(12,.d (.slice 3 (o.w.zones.map aC))),(13,.d (.int .i64 ((o.w.zones.map aC).length:Int))),(14,.d (.int .i64 k))],(55,.row 9 1 ((cT (λp=>m.contains p.host) (o.w.zones.take k)).map bt))::mq m++bg o⟩,
  λk=>k<=o.w.zones.length,λk=>o.w.zones.length-k,⟨0,Nat.zero_le _,(ah.kj 5 55 1 9 1 rfl rfl (by decide)).trans (ah.keep)⟩,λk hk=>?_⟩
 conv=>whnf
 refine af (λh1=>?_) (λh1=>?_) <;> (rw[h1];conv=>whnf)
 . have hlt:k<o.w.zones.length:=by simp at h1;omega
   obtain⟨p,hpk⟩:∃p,o.w.zones[k]? =some p:=⟨_,aj hlt⟩
   have hst:=CR (f:=(λp=>m.contains p.host)) hpk;have hlen:=nw ((λp=>m.contains p.host)) (o.w.zones.take k);have hlen2:(o.w.zones.take k).length<=k:=by simp;omega
   have skip:((λp=>m.contains p.host) p&& !(cT (λp=>m.contains p.host) (o.w.zones.take k)).contains p.zone.apex)=false->cT (λp=>m.contains p.host) (o.w.zones.take (k+1))=cT (λp=>m.contains p.host) (o.w.zones.take k):=λe=>by rw[hst];unfold kr;rw[if_neg (by rw[e];decide)]
   refine⟨aw k,aC p,aD hpk,?_⟩
   conv=>whnf
   have hC:=Kt m p;refine⟨[7,55,100034,90032,90040,90041],_,hC,⟨by kernel_rfl,by kernel_rfl,by kernel_rfl⟩,?_⟩
   conv=>whnf
   refine aA ?_
   conv=>whnf
   cases hfp:m.contains p.host with
   |false =>
    conv=>whnf
    have e:=skip (by(show(m.contains p.host&&_)=false);rw[hfp];rfl);exact⟨k+1,hlt,by(show o.w.zones.length-(k+1)<o.w.zones.length-k;omega),ah.keep ⟨ae,ae,ae,ae,ae,⟨an (k:=k) (by omega),rfl⟩,trivial⟩ ⟨⟨congrArg (λr:List Bs=>some (Blk.row 9 1 (r.map bt))) e.symm,rfl⟩,ae,ae,ae,ae,ae,trivial⟩⟩
   |true =>
   conv=>whnf
   refine⟨_,ug (cT (λp=>m.contains p.host) (o.w.zones.take k)) p.zone.apex (by omega),by kernel_rfl,?_⟩
   conv=>whnf
   cases hc:(cT (λp=>m.contains p.host) (o.w.zones.take k)).contains p.zone.apex with
   |true =>
    conv=>whnf
    have e:=skip (by rw[hc];simp);exact⟨k+1,hlt,by(show o.w.zones.length-(k+1)<o.w.zones.length-k;omega),ah.keep ⟨ae,ae,ae,ae,ae,⟨an (k:=k) (by omega),rfl⟩,trivial⟩ ⟨⟨congrArg (λr:List Bs=>some (Blk.row 9 1 (r.map bt))) e.symm,rfl⟩,ae,ae,ae,ae,ae,trivial⟩⟩
   |false =>
    conv=>whnf
    refine⟨by(show((cT (λp=>m.contains p.host) (o.w.zones.take k)).map bt).length+1<=_;rw[ao];omega),by(show(((cT (λp=>m.contains p.host) (o.w.zones.take k)).map bt).length+1)*16<=_;rw[ao];omega),?_⟩
    conv=>whnf
    have e:(cT (λp=>m.contains p.host) (o.w.zones.take k)).map bt++[[.str p.zone.apex]]=(cT (λp=>m.contains p.host) (o.w.zones.take (k+1))).map bt:=by
     rw[hst];unfold kr;rw[if_pos (by rw[hc];show(m.contains p.host&&true)=true;rw[hfp];rfl),List.map_append];rfl
    exact⟨k+1,hlt,by(show o.w.zones.length-(k+1)<o.w.zones.length-k;omega),ah.keep ⟨ae,ae,ae,ae,ae,⟨an (k:=k) (by omega),rfl⟩,trivial⟩ ⟨⟨congrArg (λr=>some (Blk.row 9 1 r)) e,rfl⟩,ae,ae,ae,ae,ae,trivial⟩⟩
 . obtain rfl:k=o.w.zones.length:=by simp at h1;omega
   exact fo (ah.rq [55]) rfl (by rw[List.take_length];rfl) rfl
set_option maxHeartbeats 4000000 in
theorem Ft(o:aX)(hn:o.w.zones.length<=1000):FnP Ag pvW 128 [.ptr 100034 0,.d (.fn 130 [] [])] (bg o) (some (.d (.slice 1 ((cT (λ_=>true) o.w.zones).map bt)),bg o)):=by
 refine aT [] (fun|5=>[33333]|_=>[]) JZ vQ Tryz.func128 (by kernel_rfl) rfl (ag rfl) (ag rfl) rfl ?_
 conv=>whnf
 refine⟨Nat,λk=>⟨[(0,.ptr 100034 0),(1,.d (.fn 130 [] [])),(5,.own 55),(12,.d (.slice 3 (o.w.zones.map aC))),(13,.d (.int .i64 ((o.w.zones.map aC).length:Int))),(14,.d (.int .i64 k))],(55,.row 9 1 ((cT (λ_=>true) (o.w.zones.take k)).map bt))::bg o⟩,
  λk=>k<=o.w.zones.length,λk=>o.w.zones.length-k,⟨0,Nat.zero_le _,(ah.kj 5 55 1 9 1 rfl rfl (by decide)).trans (ah.keep)⟩,λk hk=>?_⟩
 conv=>whnf
 refine af (λh1=>?_) (λh1=>?_) <;> (rw[h1];conv=>whnf)
 . have hlt:k<o.w.zones.length:=by simp at h1;omega
   obtain⟨p,hpk⟩:∃p,o.w.zones[k]? =some p:=⟨_,aj hlt⟩
   have hst:=CR (f:=(λ_=>true)) hpk;have hlen:=nw ((λ_=>true)) (o.w.zones.take k);have hlen2:(o.w.zones.take k).length<=k:=by simp;omega
   have skip:((λ_=>true) p&& !(cT (λ_=>true) (o.w.zones.take k)).contains p.zone.apex)=false->cT (λ_=>true) (o.w.zones.take (k+1))=cT (λ_=>true) (o.w.zones.take k):=λe=>by rw[hst];unfold kr;rw[if_neg (by rw[e];decide)]
   refine⟨aw k,aC p,aD hpk,?_⟩
   conv=>whnf
   have hC:=Ku p;refine⟨[7,55,100034,90032,90040,90041],_,hC,⟨by kernel_rfl,by kernel_rfl,by kernel_rfl⟩,?_⟩
   conv=>whnf
   refine aA ?_
   conv=>whnf
   refine⟨_,ug (cT (λ_=>true) (o.w.zones.take k)) p.zone.apex (by omega),by kernel_rfl,?_⟩
   conv=>whnf
   cases hc:(cT (λ_=>true) (o.w.zones.take k)).contains p.zone.apex with
   |true =>
    conv=>whnf
    have e:=skip (by rw[hc];simp);exact⟨k+1,hlt,by(show o.w.zones.length-(k+1)<o.w.zones.length-k;omega),ah.keep ⟨ae,ae,ae,ae,ae,⟨an (k:=k) (by omega),rfl⟩,trivial⟩ ⟨⟨congrArg (λr:List Bs=>some (Blk.row 9 1 (r.map bt))) e.symm,rfl⟩,ae,ae,ae,ae,trivial⟩⟩
   |false =>
    conv=>whnf
    refine⟨by(show((cT (λ_=>true) (o.w.zones.take k)).map bt).length+1<=_;rw[ao];omega),by(show(((cT (λ_=>true) (o.w.zones.take k)).map bt).length+1)*16<=_;rw[ao];omega),?_⟩
    conv=>whnf
    have e:(cT (λ_=>true) (o.w.zones.take k)).map bt++[[.str p.zone.apex]]=(cT (λ_=>true) (o.w.zones.take (k+1))).map bt:=by
     rw[hst];unfold kr;rw[if_pos (by rw[hc];rfl),List.map_append];rfl
    exact⟨k+1,hlt,by(show o.w.zones.length-(k+1)<o.w.zones.length-k;omega),ah.keep ⟨ae,ae,ae,ae,ae,⟨an (k:=k) (by omega),rfl⟩,trivial⟩ ⟨⟨congrArg (λr=>some (Blk.row 9 1 r)) e,rfl⟩,ae,ae,ae,ae,trivial⟩⟩
 . obtain rfl:k=o.w.zones.length:=by simp at h1;omega
   exact fo (ah.rq [55]) rfl (by rw[List.take_length];rfl) rfl
def eX(m:List Int)(l:List ai):List ai:=(l.filter λp=>m.contains p.host).map λp=>⟨p.host,⟨p.zone.apex,[]⟩⟩
theorem BK(m:List Int)(l:List ai):(eX m l).length<=l.length:=by
 unfold eX;rw[ao];exact List.length_filter_le ..
def sx(o:aX)(m:List Int):aX:=bY {bY o with puts:=eX m o.w.zones}
noncomputable def ic:Cx:={cx with chg:=fY [(113,10),(62,10),(111,9),(127,9),(128,9),(114,9),(122,9),(116,9),(120,9),(119,9),(115,9)],bld:=[83,118]}
theorem SU:ba ic:=aV
theorem QD:ic.P.follows .mixedOrders=true:=mixed
def NL:Nat->List Nat:=fun|3=>[55555]|4=>[33333]|5=>[33333]|6=>[33333,55555]|9=>[33333]|10=>[33333]|11=>[33333]|13=>[33333]|14=>[55555]|15=>[33333,55555]|18=>[33333]|19=>[55555]|21=>[33333,55555]|23=>[33333,55555]|24=>[55555]|28=>[33333]|30=>[33333,55555]|_=>[]
noncomputable abbrev Kr:Code:=(Tryz.f66).body.getD .skip
noncomputable abbrev Rs:List ResultVar:=(Tryz.f66).results.toList
set_option maxHeartbeats 4000000 in
theorem Ib(o:aX)(m:List Int)(hn:o.w.zones.length<=1000)(hp:o.puts.length<=100000)(hs:o.stages.length<=100)(hgl:∀a,(bu o.got a).length<=1000)(hpz:∀p∈o.puts,p.zone.sets.length<=100000)(hpa:∀p∈o.puts,jc o.w o.got p=false) :
 vcp ic [100007] pvW 148 NL (λ_=>ij (some (sx o m))=none) ((fG 23 Kr).getD .skip) (mT ic [100007] Rs (ij (some (sx o m))))
  ⟨[(0,.ptr 100034 0),(7,.ptr 100007 0)],mq m++bg o⟩:=by
 conv=>whnf
 refine⟨_,ah.refl _,?_⟩
 conv=>whnf
 have hFi:=lift (cx' :=ic) (jZ o hn hp (by omega) hgl hpz hpa) rfl rfl;refine⟨[100007],_,hFi,⟨rfl,rfl,rfl⟩,?_⟩
 conv=>whnf
 refine aA ?_
 conv=>whnf
 have hs1:(bY o).stages.length<=101:=nQ hs;have hE:sx o m=bY {bY o with puts:=eX m o.w.zones}:=rfl;have hw1:(bY o).w=o.w:=rfl;have hp1:(bY o).puts=[]:=rfl;have hgl1:∀a,(bu (bY o).got a).length<=1000:=hgl;refine⟨_,ah.keep (sl:=[(0,.ptr 100034 0),(7,.ptr 100007 0)]) (h:=mq m++bg (bY o)),?_⟩;rw[hE];generalize bY o=o1 at hs1 hw1 hp1 hgl1 ⊢;rw[<- hw1];rw[<- hw1]at hn
 conv=>whnf
 refine⟨Nat×List ai,λq=>⟨[(0,.ptr 100034 0),(7,.ptr 100007 0),(128,.d (.slice 3 (o1.w.zones.map aC))),(129,.d (.int .i64 ((o1.w.zones.map aC).length:Int))),(130,.d (.int .i64 q.1))],mq m++bg {o1 with puts:=q.2}⟩,
  λq=>q.1<=o1.w.zones.length/\q.2++eX m (o1.w.zones.drop q.1)=eX m o1.w.zones/\q.2.length<=q.1,λq=>o1.w.zones.length-q.1,⟨(0,[]),⟨Nat.zero_le _,rfl,Nat.le_refl _⟩,ah.keep (by repeat' (first|exact trivial|refine⟨⟨rfl,rfl⟩,?_⟩)) ⟨⟨rfl,rfl⟩,⟨rfl,rfl⟩,⟨rfl,rfl⟩,⟨congrArg (λr:List ai=>some (Blk.row 45 3 (r.map aC))) hp1,rfl⟩,⟨rfl,rfl⟩,trivial⟩⟩,?_⟩
 rintro⟨k,ps⟩ ⟨hk,hs,hlp⟩;dsimp only at hk hs hlp
 conv=>whnf
 refine af (λh1=>?_) (λh1=>?_) <;> (rw[h1];conv=>whnf)
 . have hlt:k<o1.w.zones.length:=by simp at h1;omega
   obtain⟨p,hpk⟩:∃p,o1.w.zones[k]? =some p:=⟨_,aj hlt⟩
   have hd:eX m (o1.w.zones.drop k)=(if m.contains p.host=true then[⟨p.host,⟨p.zone.apex,[]⟩⟩]else[])++eX m (o1.w.zones.drop (k+1)):=by
    rw[drop_cons hpk];unfold eX;rw[List.filter_cons];split <;> rfl
   rw[hd, <- List.append_assoc]at hs;refine⟨aw k,aC p,aD hpk,?_⟩
   conv=>whnf
   refine⟨_,oe p.host m,?_⟩;cases hc:m.contains p.host with
   |false =>
    rw[if_neg (by rw[hc];decide),List.append_nil]at hs
    conv=>whnf
    exact⟨(k+1,ps),⟨hlt,hs,by dsimp only;omega⟩,by(show o1.w.zones.length-(k+1)<o1.w.zones.length-k;omega),ah.keep ⟨ae,ae,ae,ae,⟨an (k:=k) (by omega),rfl⟩,trivial⟩⟩
   |true =>
    rw[if_pos hc]at hs
    conv=>whnf
    have hP:=lift (cx' :=ic) (EO {o1 with puts:=ps} p.host p.zone.apex (by dsimp only;omega)) rfl rfl;refine⟨[20,100007],_,hP,⟨rfl,rfl,rfl⟩,?_⟩
    conv=>whnf
    refine aA ?_
    conv=>whnf
    exact⟨(k+1,ps++[⟨p.host,⟨p.zone.apex,[]⟩⟩]),⟨hlt,hs,by simp;omega⟩,by(show o1.w.zones.length-(k+1)<o1.w.zones.length-k;omega),ah.keep ⟨ae,ae,ae,ae,⟨an (k:=k) (by omega),rfl⟩,trivial⟩⟩
 . obtain rfl:k=o1.w.zones.length:=by simp at h1;omega
   rw[List.drop_length]at hs;have hs:ps=eX m o1.w.zones:=by rw[<- hs];exact(List.append_nil _).symm
   have hsl:=BK m o1.w.zones;subst hs;have hFi:=lift (cx' :=ic) (jZ {o1 with puts:=eX m o1.w.zones} hn (by dsimp only;omega) (by dsimp only;omega) hgl1 (λp hp=>by
    unfold eX at hp;obtain⟨q,_,rfl⟩:=List.mem_map.1 hp;simp) (λp hp=>by
    dsimp only at hp;unfold eX at hp;obtain⟨q,_,rfl⟩:=List.mem_map.1 hp;exact CK)) rfl rfl
   refine⟨_,ah.keep (sl:=[(0,.ptr 100034 0)]) (h:=bg {o1 with puts:=eX m o1.w.zones}),?_⟩
   conv=>whnf
   refine⟨[],_,hFi,⟨rfl,rfl,rfl⟩,?_⟩
   conv=>whnf
   refine aA ?_
   conv=>whnf
   exact .inl ⟨[],ah.keep trivial,rfl⟩
def iV(o:aX)(x:aY)(ad:Datum):List Bs->List ai->Option (List ai)
 |[],ps=>some ps
 | a :: t, ps => if (wfR (bz o.w.zones a).1 x.name 1).2 = true then (match cG o.since o.till (bo (bz o.w.zones a).1 x.name 1 o.life [ad]) with
     |none=>none
     |some z=>iV o x ad t (ps++cA z o.w.zones++cS z (bu o.got z.apex)))else iV o x ad t ps
theorem HT(o : aX)(x : aY)(ad : Datum)(a : Bs)(t : List Bs)(ps : List ai) : iV o x ad (a :: t) ps = if (wfR (bz o.w.zones a).1 x.name 1).2 = true then (match cG o.since o.till (bo (bz o.w.zones a).1 x.name 1 o.life [ad]) with
      |none=>none
      |some z=>iV o x ad t (ps++cA z o.w.zones++cS z (bu o.got z.apex)))else iV o x ad t ps:=rfl
def rP(o:aX)(x:aY)(ad:Datum)(m:List Int):Option aX:=match iV o x ad (cT (λ_=>true) o.w.zones) []with
 |none=>none
 |some ps=>some (sx {o with puts:=ps} m)
theorem Iy{zs:List ai}{a s:Bs}{k:Int}(hv:∀p∈zs,aR p.zone=true)(h:(wfR (bz zs a).1 s k).2=true):aR (bz zs a).1=true:=by
 rcases eF zs a with ⟨p,hp,hc,_⟩|⟨hc,_⟩
 . rw[hc];exact hv p hp
 . rw[hc]at h;cases h
set_option maxHeartbeats 8000000 in
theorem Ia(o:aX)(x:aY)(ad:Datum)(m:List Int)(hv:∀p∈o.w.zones,aR p.zone=true)(hn:o.w.zones.length<=20)(hp:o.puts=[])(hs:o.stages.length<=100)(hgl:∀a,(bu o.got a).length<=20) :
 vcp ic [100007] pvW 148 NL (λ_=>ij (rP o x ad m)=none) ((fG 15 Kr).getD .skip) (mT ic [100007] Rs (ij (rP o x ad m)))
  ⟨[(0,.ptr 100034 0),(3,.ptr 3 0),(7,.ptr 100007 0),(12,.d (.slice 3 [aI ad]))],(3,.box ((aS x).map .d))::mq m++bg o⟩:=by
 conv=>whnf
 refine⟨_,ah.refl _,?_⟩
 conv=>whnf
 obtain⟨r,hr⟩:∃r,r=rP o x ad m:=⟨_,rfl⟩
 rw[<- hr];have hX:=lift (cx' :=ic) (Ft o (by omega)) rfl rfl;have hXl:=nw (λ_=>true) o.w.zones;have hr:r=match iV o x ad (cT (λ_=>true) o.w.zones) []with|none=>none|some ps=>some (sx {o with puts:=ps} m):=hr
 generalize cT (λ_=>true) o.w.zones=l at hX hXl hr
 refine⟨[3,100007],_,hX,⟨by kernel_rfl,by kernel_rfl,by kernel_rfl⟩,?_⟩
 conv=>whnf
 refine aA ?_
 conv=>whnf
 refine⟨Nat×List ai,λq=>⟨[(0,.ptr 100034 0),(3,.ptr 3 0),(7,.ptr 100007 0),(12,.d (.slice 3 [aI ad])),(85,.d (.slice 1 (l.map bt))),(86,.d (.int .i64 ((l.map bt).length:Int))),(87,.d (.int .i64 q.1))],(3,.box ((aS x).map .d))::mq m++bg {o with puts:=q.2}⟩,
  λq=>q.1<=l.length/\iV o x ad (l.drop q.1) q.2=iV o x ad l []/\q.2.length<=40*q.1/\ ∀p∈q.2,jc o.w o.got p=false/\p.zone.sets.length<=20000,λq=>l.length-q.1,⟨(0,[]),⟨Nat.zero_le _,rfl,Nat.le_refl _,λp h=>by cases h⟩,ah.keep (by repeat' (first|exact trivial|refine⟨⟨rfl,rfl⟩,?_⟩)) ⟨⟨rfl,rfl⟩,⟨rfl,rfl⟩,⟨rfl,rfl⟩,⟨rfl,rfl⟩,⟨congrArg (λr:List ai=>some (Blk.row 45 3 (r.map aC))) hp,rfl⟩,⟨rfl,rfl⟩,trivial⟩⟩,?_⟩
 rintro⟨k,ps⟩ ⟨hk,hps,hpl,hpp⟩;dsimp only at hk hps hpl hpp
 conv=>whnf
 refine af (λh1=>?_) (λh1=>?_) <;> (rw[h1];conv=>whnf)
 . have hlt:k<l.length:=by simp at h1;omega
   obtain⟨a,hak⟩:∃a,l[k]? =some a:=⟨_,aj hlt⟩
   rw[drop_cons hak]at hps;rw[HT]at hps;refine⟨aw k,bt a,aD hak,?_⟩
   conv=>whnf
   have hC:=bB (pv' :=pvW) (lift (cx' :=ic) (iz o.w a hv (by omega)) rfl rfl);have hcf:=Bb hv a;have hcv:=Iy (a:=a) (s:=x.name) (k:=1) hv;generalize bz o.w.zones a=c at hC hcf hcv hps;obtain⟨c,cb⟩:=c;dsimp only at hC hcf hcv hps;refine⟨[3,100007,100034,90032,90040,90041],_,hC,⟨by kernel_rfl,by kernel_rfl,by kernel_rfl⟩,?_⟩
   conv=>whnf
   refine aA ?_
   conv=>whnf
   refine⟨_,ah.keep (sl:=[(0,.ptr 100034 0),(3,.ptr 3 0),(7,.ptr 100007 0),(12,.d (.slice 3 [aI ad])),(15,.ptr 15 0),(85,.d (.slice 1 (l.map bt))),(86,.d (.int .i64 ((l.map bt).length:Int))),(87,.d (.int .i64 k))]) (h:=(3,.box ((aS x).map .d))::(15,.box ((aG c).map .d))::mq m++bg {o with puts:=ps}),?_⟩
   conv=>whnf
   have hF:=mA c x.name 1 hcf;generalize wfR c x.name 1=s1 at hF hcv hps;obtain⟨s1,b1⟩:=s1;dsimp only at hF hcv hps
   (refine⟨_,_,hF,?_⟩;conv=>whnf)
   cases b1 with
   |false =>
    rw[if_neg (by decide)]at hps
    conv=>whnf
    exact⟨(k+1,ps),⟨hlt,hps,by dsimp only;omega,hpp⟩,by(show l.length-(k+1)<l.length-k;omega),ah.keep ⟨ae,ae,ae,ae,ae,ae,⟨an (k:=k) (by omega),rfl⟩,trivial⟩⟩
   |true =>
    rw[if_pos rfl]at hps;have hcv:=hcv rfl
    conv=>whnf
    refine⟨_,ah.keep (sl:=[(0,.ptr 100034 0),(3,.ptr 3 0),(7,.ptr 100007 0),(12,.d (.slice 3 [aI ad])),(15,.ptr 15 0),(85,.d (.slice 1 (l.map bt))),(86,.d (.int .i64 ((l.map bt).length:Int))),(87,.d (.int .i64 k))]) (h:=(3,.box ((aS x).map .d))::(15,.box ((aG c).map .d))::mq m++bg {o with puts:=ps}),?_⟩
    conv=>whnf
    clear hC hF;have hB:=bB (pv' :=pvW) (lift (cx' :=ic) (dH x.name 1 o.life [ad]) rfl rfl);have hS:=lift (cx' :=ic) (qW {o with puts:=ps} c x.name 1 o.life [ad] hcv (by simp) (λh=>iD (gj (ln hcv) (by simp)) h)) rfl rfl
    change FnP _ _ _ _ _ (mr _ (cG o.since o.till (bo c x.name 1 o.life [ad])))at hS
    cases hq:cG o.since o.till (bo c x.name 1 o.life [ad])with
    |none =>
     rw[hq]at hS hps;have hr:r=none:=by rw[hr, <- hps]
     subst hr
     (refine⟨(by kernel_rfl:bA _=true),?_⟩;conv=>whnf)
     refine⟨[3,15,100007,100034,90032,90040,90041],_,hB,⟨rfl,rfl,rfl⟩,?_⟩
     conv=>whnf
     refine aA ?_
     (conv=>arg 2;arg 1;reduce)
     conv=>whnf
     repeat (refine And.intro (by kernel_rfl:NQ.viewAt _ _ _ _=NQ.viewAt _ _ _ _) ?_;conv=>whnf)
     exact⟨[3,15,100007],_,hS,⟨by kernel_rfl,by kernel_rfl,by kernel_rfl⟩,rfl⟩
    |some z =>
    rw[hq]at hS hps;dsimp only at hps;have hz1:=cU (gO hq);have hSp:=lift (cx' :=ic) (jI {o with puts:=ps} z hz1 (by dsimp only;omega) (by dsimp only;omega) (by dsimp only;have:=hgl z.apex;omega)) rfl rfl
    (refine⟨(by kernel_rfl:bA _=true),?_⟩;conv=>whnf)
    refine⟨[3,15,100007,100034,90032,90040,90041],_,hB,⟨rfl,rfl,rfl⟩,?_⟩
    conv=>whnf
    refine aA ?_
    (conv=>arg 2;arg 1;reduce)
    conv=>whnf
    repeat (refine And.intro (by kernel_rfl:NQ.viewAt _ _ _ _=NQ.viewAt _ _ _ _) ?_;conv=>whnf)
    refine⟨[3,15,100007],_,hS,⟨by kernel_rfl,by kernel_rfl,by kernel_rfl⟩,?_⟩
    conv=>whnf
    refine aA ?_
    (conv=>arg 2;arg 1;reduce)
    conv=>whnf
    repeat (refine And.intro (by kernel_rfl:NQ.viewAt _ _ _ _=NQ.viewAt _ _ _ _) ?_;conv=>whnf)
    refine⟨[3,15,100007],_,hSp,⟨by kernel_rfl,by kernel_rfl,by kernel_rfl⟩,?_⟩
    conv=>whnf
    refine aA ?_
    (conv=>arg 2;arg 1;reduce)
    conv=>whnf
    have hsl:=AM z o.w.zones;have hga:=hgl z.apex;exact⟨(k+1,ps++cA z o.w.zones++cS z (bu o.got z.apex)),⟨hlt,hps,by simp[cS];omega,λp hp=>by
     rw[List.append_assoc]at hp;rcases List.mem_append.1 hp with hp|hp
     . exact hpp p hp
     . refine⟨sw p hp,?_⟩;have e:p.zone=z:=by
        rcases List.mem_append.1 hp with h|h
        . unfold cA at h;obtain⟨q,_,rfl⟩:=List.mem_map.1 h;rfl
        . unfold cS at h;obtain⟨q,_,rfl⟩:=List.mem_map.1 h;rfl
       rw[e];exact hz1.1⟩,by(show l.length-(k+1)<l.length-k;omega),ah.keep ⟨ae,ae,ae,ae,ae,ae,⟨an (k:=k) (by omega),rfl⟩,trivial⟩⟩
 . obtain rfl:k=l.length:=by simp at h1;omega
   rw[List.drop_length]at hps;have hps:some ps=iV o x ad l []:=hps;rw[<- hps]at hr;have hT:=Ib {o with puts:=ps} m (by dsimp only;omega) (by dsimp only;omega) hs (λa=>by have:=hgl a;dsimp only;omega) (λp hp=>by have:=(hpp p hp).2;omega) (λp hp=>(hpp p hp).1);replace hr:r=some (sx {o with puts:=ps} m):=hr;rw[<- hr]at hT
   conv at hT=>whnf
   exact eT hT (ah.keep)
theorem zX(f:ai->Bool):∀(zs:List ai) (l:List Bs),l.Nodup->(zs.foldl (kr f) l).Nodup/\ ∀a∈zs.foldl (kr f) l,a∈l\/ ∃p∈zs,p.zone.apex=a
 |[],l,h=>⟨h,λa ha=> .inl ha⟩
 |p::t,l,h=>by
  have h2:(kr f l p).Nodup:=by
   unfold kr;split
   . rename_i hc;simp only[aH,Bool.not_eq_true']at hc;rw[List.nodup_append];refine⟨h,by simp,λa ha b hb e=>?_⟩;rcases List.mem_singleton.1 hb with rfl;rw[e]at ha;rw[la.2 ha]at hc;cases hc.2
   . exact h
  obtain⟨g1,g2⟩:=zX f t (kr f l p) h2;refine⟨g1,λa ha=>?_⟩;rcases g2 a ha with h3|⟨q,hq,e⟩
  . unfold kr at h3;split at h3
    . rcases List.mem_append.1 h3 with h3|h3
      . exact .inl h3
      . rcases List.mem_singleton.1 h3 with rfl;exact .inr ⟨p,List.mem_cons_self .., rfl⟩
    . exact .inl h3
  . exact .inr ⟨q,aZ _ hq,e⟩
theorem DQ(w:aL):∀(l:List ai) (g:List (Bs×List Int)) (a:Bs),bf a (cV w g l)≠none->bf a g≠none\/ ∃q∈l,q.zone.apex=a
 |[],g,a,h=> .inl h
 |p::t,g,a,h=>by
  rcases DQ w t (jz w g p) a h with h|⟨q,hq,e⟩
  . unfold jz at h;split at h
    . rw[ql]at h;split at h
      . rename_i e;exact .inr ⟨p,List.mem_cons_self .., e.symm⟩
      . exact .inl h
    . exact .inl h
  . exact .inr ⟨q,aZ _ hq,e⟩
def dJ(o:aX)(host:Int)(l:List Bs):List ai:=(l.filter λa=> !o.w.zones.any (dY host a)).map λa=>⟨host,(bz o.w.zones a).1⟩
theorem DO(o:aX)(host:Int)(l:List Bs):(dJ o host l).length<=l.length:=by
 unfold dJ;rw[ao];exact List.length_filter_le ..
theorem Dl{zs:List ai}(hv:∀p∈zs,aR p.zone=true)(a:Bs):ZSm (bz zs a).1:=by
 rcases eF zs a with ⟨p,hp,hc,_⟩|⟨hc,_⟩
 . rw[hc];exact cU (hv p hp)
 . rw[hc];exact⟨by simp[hU],by simp[hU]⟩
theorem Lj(o:aX)(host:Int)(l:List Bs)(h:∀a∈l,∃p∈o.w.zones,p.zone.apex=a):(dJ o host l).map (λp=>p.zone.apex)=l.filter λa=> !o.w.zones.any (dY host a):=by
 unfold dJ;rw[List.map_map]
 conv=>rhs;rw[<- List.map_id (l.filter _)]
 refine List.map_congr_left λa ha=>?_
 have ha:=(List.mem_filter.1 ha).1;show(bz o.w.zones a).1.apex=a
 rcases eF o.w.zones a with ⟨p,hp,hc,e⟩|⟨_,hc⟩
 . rw[hc];exact e
 . obtain⟨p,hp,e⟩:=h a ha;exact absurd e (hc p hp)
theorem Qr(o:aX)(host:Int)(f:ai->Bool)(k:Nat)(p:ai)(hk:(dJ o host (cT f o.w.zones))[k]? =some p):bf p.zone.apex (cV o.w [] ((dJ o host (cT f o.w.zones)).take k))=none:=by
 cases hc:bf p.zone.apex (cV o.w [] ((dJ o host (cT f o.w.zones)).take k))with
 |none=>rfl
 |some v =>
  exfalso
  obtain⟨g1,g2⟩:=zX f o.w.zones [] List.nodup_nil;have hap:=Lj o host (cT f o.w.zones) (λa ha=>by
   rcases g2 a ha with h|h
   . cases h
   . exact h)
  have hnd:((dJ o host (cT f o.w.zones)).map (λp=>p.zone.apex)).Nodup:=by rw[hap];exact List.Pairwise.filter _ g1
  rcases DQ o.w _ [] p.zone.apex (by rw[hc];simp)with h|⟨q,hq,e⟩
  . exact h rfl
  . obtain⟨j,hj⟩:=cd hq;rw[List.getElem?_take]at hj;split at hj
    . rename_i hjk;have h1:((dJ o host (cT f o.w.zones)).map (λp=>p.zone.apex))[j]? =some p.zone.apex:=by rw[aN,hj];simp[e]
      have h2:((dJ o host (cT f o.w.zones)).map (λp=>p.zone.apex))[k]? =some p.zone.apex:=by rw[aN,hk];rfl
      have hlt:j<((dJ o host (cT f o.w.zones)).map (λp=>p.zone.apex)).length:=(aq.1 h1).1;have:=(List.getElem?_inj hlt hnd).1 (h1.trans h2.symm);omega
    . cases hj
def xZ(o:aX)(x:aY)(host:Int)(m:List Int):Option aX:=rP (cH {o with puts:=dJ o host (cT (λp=>m.contains p.host) o.w.zones)}) x ⟨[],addrAt o.w host,0⟩ m
def oT(o:aX)(x:aY)(host:Int):Option aX:=if (wfR o.zone x.name 1).2=true then xZ o x host (nf (wfR o.zone x.name 1).1.data host 0 o.w.hosts)else none
set_option maxHeartbeats 8000000 in
theorem MN(o:aX)(x:aY)(host:Int)(hx:x.hosts=[host])(hw:bk o.w host=true)(hv:∀p∈o.w.zones,aR p.zone=true)(hn:o.w.zones.length<=20)(hnh:o.w.hosts.length<=1000)(hp0:o.puts=[])(hs0:o.stages.length<=50)(hg0:o.got=[])(hz:aR o.zone=true) :
 FnP ic pvW 66 [.ptr 100034 0,.agg ((aS x).map .d)] (bg o) (ij (oT o x host)):=by
 refine aT [100007] NL SU QD Tryz.func66 (by kernel_rfl) rfl (ag rfl) (ag rfl) rfl ?_
 conv=>whnf
 obtain⟨r,hr⟩:∃r,r=oT o x host:=⟨_,rfl⟩
 rw[<- hr];have hget:(x.hosts.map cK)[(0:Int).toNat]? =some (cK host):=by rw[hx];rfl
 refine⟨Int.le_refl 0,cK host,hget,?_⟩
 conv=>whnf
 have hF:=mA o.zone x.name 1 (by have:=(cU hz).1;omega);have hds:=sR (s:=x.name) (k:=1) hz;unfold oT at hr;generalize wfR o.zone x.name 1=s at hF hr hds;obtain⟨s,b⟩:=s;dsimp only at hF hr hds
 (refine⟨(by kernel_rfl:bC _ _=true),?_⟩;conv=>whnf)
 (refine⟨_,_,hF,?_⟩;conv=>whnf)
 refine⟨_,ah.keep (sl:=[(0,.ptr 100034 0),(3,.ptr 3 0),(4,.d (.int .i64 host)),(5,.ptr 5 0),(6,.d (.bool b))]) (h:=(3,.box ((aS x).map .d))::(5,.box ((bJ s).map .d))::bg o),?_⟩
 conv=>whnf
 clear hF;cases b with
 |false =>
  rw[if_neg (by decide)]at hr;subst hr
  conv=>whnf
  have hF:=lift (cx' :=ic) (jw 4 (by decide)) rfl rfl;exact⟨[3,5,100034,90032,90040,90041],_,hF,⟨rfl,rfl,rfl⟩,rfl⟩
 |true =>
 rw[if_pos rfl]at hr;have hds:=hds rfl
 conv=>whnf
 have hO:=lift (cx' :=ic) (Em o s.data host (by omega) (by omega)) rfl rfl;generalize nf s.data host 0 o.w.hosts=m at hO hr;refine⟨[3,5],_,hO,⟨by kernel_rfl,by kernel_rfl,by kernel_rfl⟩,?_⟩
 conv=>whnf
 refine aA ?_
 conv=>whnf
 refine⟨_,ah.trans (ah.name 7 100007 rfl rfl) (ah.keep (sl:=[(0,.ptr 100034 0),(3,.ptr 3 0),(4,.d (.int .i64 host)),(7,.ptr 100007 0)]) (h:=(3,.box ((aS x).map .d))::mq m++bg o)),?_⟩
 conv=>whnf
 have hX:=lift (cx' :=ic) (Fs o m (by omega)) rfl rfl;have hXl:=nw (λp=>m.contains p.host) o.w.zones;have hgo:=Qr o host (λp=>m.contains p.host);unfold xZ at hr;generalize cT (λp=>m.contains p.host) o.w.zones=l at hX hXl hr hgo;refine⟨[3],_,hX,⟨by kernel_rfl,by kernel_rfl,by kernel_rfl⟩,?_⟩
 conv=>whnf
 refine aA ?_
 conv=>whnf
 refine⟨Nat×List ai,λq=>⟨[(0,.ptr 100034 0),(3,.ptr 3 0),(4,.d (.int .i64 host)),(7,.ptr 100007 0),(45,.d (.slice 1 (l.map bt))),(46,.d (.int .i64 ((l.map bt).length:Int))),(47,.d (.int .i64 q.1))],(3,.box ((aS x).map .d))::mq m++bg {o with puts:=q.2}⟩,
  λq=>q.1<=l.length/\q.2++dJ o host (l.drop q.1)=dJ o host l/\q.2.length<=q.1,λq=>l.length-q.1,⟨(0,[]),⟨Nat.zero_le _,rfl,Nat.le_refl _⟩,ah.keep (by repeat' (first|exact trivial|refine⟨⟨rfl,rfl⟩,?_⟩)) ⟨⟨rfl,rfl⟩,⟨rfl,rfl⟩,⟨rfl,rfl⟩,⟨rfl,rfl⟩,⟨congrArg (λr:List ai=>some (Blk.row 45 3 (r.map aC))) hp0,rfl⟩,⟨rfl,rfl⟩,trivial⟩⟩,?_⟩
 rintro⟨k,ps⟩ ⟨hk,hps,hpl⟩;dsimp only at hk hps hpl
 conv=>whnf
 refine af (λh1=>?_) (λh1=>?_) <;> (rw[h1];conv=>whnf)
 . have hlt:k<l.length:=by simp at h1;omega
   obtain⟨a,hak⟩:∃a,l[k]? =some a:=⟨_,aj hlt⟩
   have hd:dJ o host (l.drop k)=(if (!o.w.zones.any (dY host a))=true then[⟨host,(bz o.w.zones a).1⟩]else[])++dJ o host (l.drop (k+1)):=by
    rw[drop_cons hak];unfold dJ;rw[List.filter_cons];split <;> rfl
   rw[hd, <- List.append_assoc]at hps;refine⟨aw k,bt a,aD hak,?_⟩
   conv=>whnf
   have hC:=bB (pv' :=pvW) (lift (cx' :=ic) (ka o.w host a (by omega)) rfl rfl);generalize o.w.zones.any (dY host a)=c at hC hps;refine⟨[3,100007,100034,90032,90040,90041],_,hC,⟨by kernel_rfl,by kernel_rfl,by kernel_rfl⟩,?_⟩
   conv=>whnf
   refine aA ?_
   (conv=>arg 2;arg 1;reduce)
   conv=>whnf
   cases c with
   |true =>
    rw[if_neg (by decide),List.append_nil]at hps
    conv=>whnf
    exact⟨(k+1,ps),⟨hlt,hps,by dsimp only;omega⟩,by(show l.length-(k+1)<l.length-k;omega),ah.keep ⟨ae,ae,ae,ae,ae,ae,⟨an (k:=k) (by omega),rfl⟩,trivial⟩⟩
   |false =>
    rw[if_pos (by decide)]at hps
    conv=>whnf
    have hY:=bB (pv' :=pvW) (lift (cx' :=ic) (iz o.w a hv (by omega)) rfl rfl);have hcz:=Dl hv a;generalize bz o.w.zones a=c at hY hcz hps;obtain⟨c,cb⟩:=c;dsimp only at hY hcz hps;refine⟨[3,100007,100034,90032,90040,90041],_,hY,⟨by kernel_rfl,by kernel_rfl,by kernel_rfl⟩,?_⟩
    conv=>whnf
    refine aA ?_
    (conv=>arg 2;arg 1;reduce)
    conv=>whnf
    have hP:=lift (cx' :=ic) (pD {o with puts:=ps} host c hcz (by dsimp only;omega)) rfl rfl;refine⟨[3,10,100007],_,hP,⟨by kernel_rfl,by kernel_rfl,by kernel_rfl⟩,?_⟩
    conv=>whnf
    refine aA ?_
    (conv=>arg 2;arg 1;reduce)
    conv=>whnf
    exact⟨(k+1,ps++[⟨host,c⟩]),⟨hlt,hps,by simp;omega⟩,by(show l.length-(k+1)<l.length-k;omega),ah.keep ⟨ae,ae,ae,ae,ae,ae,⟨an (k:=k) (by omega),rfl⟩,trivial⟩⟩
 . obtain rfl:k=l.length:=by simp at h1;omega
   rw[List.drop_length]at hps;have hps:ps=dJ o host l:=by rw[<- hps];exact(List.append_nil _).symm
   have hgl:=DO o host l;subst hps;have hpz:∀p∈dJ o host l,p.zone.sets.length<=100000:=λp hp=>by
    unfold dJ at hp;obtain⟨a,_,rfl⟩:=List.mem_map.1 hp;have:=(Dl hv a).1;dsimp only;omega
   have hga:∀a,bu o.got a=[]:=λa=>by rw[hg0];rfl
   have hFi:=lift (cx' :=ic) (yx {o with puts:=dJ o host l} (by dsimp only;omega) (by dsimp only;omega) (by dsimp only;omega) (λk p _=>by
    have:=ou o.w ((dJ o host l).take k) o.got p.zone.apex;rw[hga]at this;have h2:((dJ o host l).take k).length<=(dJ o host l).length:=by rw[List.length_take];omega
    simp only[List.length_nil]at this;show(bu (cV o.w o.got ((dJ o host l).take k)) p.zone.apex).length<=100000
    omega) hpz (λk p hk _=>by
    show bf p.zone.apex (cV o.w o.got ((dJ o host l).take k))=none
    rw[hg0];exact hgo k p hk)) rfl rfl
   rw[yv]at hFi;refine⟨[3,100007],_,hFi,⟨by kernel_rfl,by kernel_rfl,by kernel_rfl⟩,?_⟩
   conv=>whnf
   refine aA ?_
   conv=>whnf
   refine⟨_,ah.keep (sl:=[(0,.ptr 100034 0),(3,.ptr 3 0),(4,.d (.int .i64 host)),(7,.ptr 100007 0)]) (h:=(3,.box ((aS x).map .d))::mq m++bg (cH {o with puts:=dJ o host l})),?_⟩
   conv=>whnf
   unfold bk at hw;simp only[aH,decide_eq_true_eq]at hw;obtain⟨h,hh2⟩:∃h,o.w.hosts[host.toNat]? =some h:=⟨_,aj (by omega)⟩
   have e2:addrAt o.w host=h.addr:=by unfold addrAt;rw[hh2]
   rw[e2]at hr;refine⟨hw.1,eN h,aD hh2,?_⟩
   conv=>whnf
   have hT:=Ia (cH {o with puts:=dJ o host l}) x ⟨[],h.addr,0⟩ m hv hn rfl (by
    show(o.stages++_).length<=100
    rw[List.length_append];split <;> simp <;> omega) (λa=>by
    have:=ou o.w (dJ o host l) o.got a;rw[hga]at this;simp only[List.length_nil]at this;show(bu (cV o.w o.got (dJ o host l)) a).length<=20
    omega)
   rw[<- hr]at hT
   conv at hT=>whnf
   exact eT hT (ah.keep)
end Go.Proofs.YtodofogcincleaaGreatDoor
