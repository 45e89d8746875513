/-
  Merged texts.
-/
import Derived.Test.YtodofogcincleaaGreatDoorMYka
set_option linter.all false
set_option maxRecDepth 100000
namespace Go.Proofs.YtodofogcincleaaGreatDoor
open NQ Go NP Go.RowKit
def yA(x:bc)(s:Signed):Bool:=decide (s.set.type=8)|| !(bo s.set.name x.name).1
def jl(s:Signed):Signed:=⟨s.set,[]⟩
def Sf(o:aY)(x:bc):aD:=⟨x.name,(o.zone.sets.filter λs=> !yA x s).map jl⟩
def Pd(o:aY)(x:bc)(st:cu):aD:=cA o.w o.life x.name x.hosts (bz (bz (bz (Sf o x) x.name 2 o.life (cz o.w x.hosts)) x.name 4 st.life [⟨[],0,(nR st).m⟩]) x.name 7 o.life (keyOf x))
def uF(o:aY)(x:bc)(st:cu)(l:List Signed):Option aY:=match cJ o.since o.till (cA o.w o.life x.name x.hosts (bz (bz (bz ⟨x.name,l.map jl⟩ x.name 2 o.life (cz o.w x.hosts)) x.name 4 st.life [⟨[],0,(nR st).m⟩]) x.name 7 o.life (keyOf x)))with
 |none=>none
 |some part=>oR o x part
def pK(o:aY)(x:bc):Option aY:=if (wfR o.zone x.zone 4).2=true then(match cJ o.since o.till (Pd o x (wfR o.zone x.zone 4).1)with
 |none=>none
 |some part=>oR o x part)else none
attribute [local irreducible] NQ.FnP
set_option maxHeartbeats 16000000 in
theorem Jb(o:aY)(x:bc)(st:cu)(m:List Signed)(sv:List Datum)(d0:Datum)(hps:ZSm ⟨x.name,m⟩)(hpf:kF ⟨x.name,m⟩)(hget:(st.data.map aG)[(0:Int).toNat]? =some (aG d0))(hsl:sv.length=x.hosts.length)(hsn:sv≠[])(hsv:cz o.w x.hosts=sv)(hn:o.w.zones.length<=1000)(hl:x.hosts.length<=1000)(hl0:x.hosts≠[])(hh:∀n∈x.hosts,bn o.w n=true)(hp:o.puts=[])(hs:o.stages.length<=50)(hg0:o.got=[])(hz:aR o.zone=true)(r:Option aY)
 (hr:r=match cJ o.since o.till (cA o.w o.life x.name x.hosts (bz (bz (bz ⟨x.name,m⟩ x.name 2 o.life sv) x.name 4 st.life [⟨[],0,d0.m⟩]) x.name 7 o.life (keyOf x)))with
  |none=>none
  |some part=>oR o x part) :
 vcp dP [100003,100004] pvW 135 Dj (λ_=>gR r=none) ((fo 12 yZ).getD .skip) (mq dP [100003,100004] Ja (gR r))
  ⟨[(0,.ptr 100034 0),(3,.d (.ptr (aT x))),(4,.ptr 4 0),(5,.ptr 100004 0),(7,.d (.slice 3 (sv.map aG))),(8,lF x.hosts x.name)],eI ⟨x.name,m⟩++(4,.box ((bN st).map .d))::gB o⟩:=by
 conv=>whnf
 refine⟨_,ah.refl _,?_⟩
 conv=>whnf
 have hS:=lift (cx' :=dP) (IS o ⟨x.name,m⟩ x.name 2 o.life sv 4 st.life [⟨[],0,d0.m⟩] 7 (keyOf x) x.name x.hosts hps hh hl (by omega) (by simp) (by simp[keyOf]) (λh=>ib (nF _ _ _ _ (fJ (fJ (fJ hpf hsn) (by simp)) (by simp[keyOf]))) h)) rfl rfl;have hB2:=bx (pv' :=pvW) (lift (cx' :=dP) (dD x.name 2 o.life sv) rfl rfl);have hB4:=bx (pv' :=pvW) (lift (cx' :=dP) (dD x.name 4 st.life [⟨[],0,d0.m⟩]) rfl rfl);have hB7:=bx (pv' :=pvW) (lift (cx' :=dP) (dD x.name 7 o.life (keyOf x)) rfl rfl);have hK:=bx (pv' :=pvW) (lift (cx' :=dP) (nn x.key) rfl rfl)
 cases hq:cJ o.since o.till (cA o.w o.life x.name x.hosts (bz (bz (bz ⟨x.name,m⟩ x.name 2 o.life sv) x.name 4 st.life [⟨[],0,d0.m⟩]) x.name 7 o.life (keyOf x)))with
 |none =>
  rw[hq]at hS hr;subst hr
  (refine⟨(by kernel_rfl:bA _=true),?_⟩;conv=>whnf)
  repeat' (first
  |(refine And.intro (by kernel_rfl:NQ.viewAt _ _ _ _=NQ.viewAt _ _ _ _) ?_;conv=>whnf)
  |(refine⟨Int.le_refl 0,aG d0,hget,?_⟩;conv=>whnf)
  |(refine⟨[4,100003,100004,100034,90032,90040,90041],_,hB2,⟨rfl,rfl,rfl⟩,?_⟩;(conv=>whnf);refine az ?_;((conv=>arg 2;arg 1;reduce);(conv=>arg 2;arg 2;tactic=>(refine Eq.trans (b:=(100004,.box ((aH ⟨x.name,m⟩).map .d))::(4,.box ((bN st).map .d))::gB o) ?_ rfl;kernel_rfl)));(conv=>whnf))
  |(refine⟨[4,100003,100004,100034,90032,90040,90041],_,hB4,⟨rfl,rfl,rfl⟩,?_⟩;(conv=>whnf);refine az ?_;((conv=>arg 2;arg 1;reduce);(conv=>arg 2;arg 2;tactic=>(refine Eq.trans (b:=(100004,.box ((aH ⟨x.name,m⟩).map .d))::(4,.box ((bN st).map .d))::gB o) ?_ rfl;kernel_rfl)));(conv=>whnf))
  |(refine⟨[4,100003,100004,100034,90032,90040,90041],_,hK,⟨rfl,rfl,rfl⟩,?_⟩;(conv=>whnf);refine az ?_;((conv=>arg 2;arg 1;reduce);(conv=>arg 2;arg 2;tactic=>(refine Eq.trans (b:=(100004,.box ((aH ⟨x.name,m⟩).map .d))::(4,.box ((bN st).map .d))::gB o) ?_ rfl;kernel_rfl)));(conv=>whnf))
  |(refine⟨[4,100003,100004,100034,90032,90040,90041],_,hB7,⟨rfl,rfl,rfl⟩,?_⟩;(conv=>whnf);refine az ?_;((conv=>arg 2;arg 1;reduce);(conv=>arg 2;arg 2;tactic=>(refine Eq.trans (b:=(100004,.box ((aH ⟨x.name,m⟩).map .d))::(4,.box ((bN st).map .d))::gB o) ?_ rfl;kernel_rfl)));(conv=>whnf))
  |exact⟨[4,100004],_,hS,⟨by kernel_rfl,by kernel_rfl,by kernel_rfl⟩,rfl⟩
  |(refine And.intro ?_ ?_ <;> (conv=>whnf)))
 |some part =>
 rw[hq]at hS hr;dsimp only at hr;have hz1:=cO (gp hq);have hT:=FB o x part hz1 hn hl hl0 hh hp hs hg0 hz;rw[hsv, <- hr]at hT
 conv at hT=>whnf
 (refine⟨(by kernel_rfl:bA _=true),?_⟩;conv=>whnf)
 repeat' (first
  |(refine And.intro (by kernel_rfl:NQ.viewAt _ _ _ _=NQ.viewAt _ _ _ _) ?_;conv=>whnf)
  |(refine⟨Int.le_refl 0,aG d0,hget,?_⟩;conv=>whnf)
  |(refine⟨[4,100003,100004,100034,90032,90040,90041],_,hB2,⟨rfl,rfl,rfl⟩,?_⟩;(conv=>whnf);refine az ?_;((conv=>arg 2;arg 1;reduce);(conv=>arg 2;arg 2;tactic=>(refine Eq.trans (b:=(100004,.box ((aH ⟨x.name,m⟩).map .d))::(4,.box ((bN st).map .d))::gB o) ?_ rfl;kernel_rfl)));(conv=>whnf))
  |(refine⟨[4,100003,100004,100034,90032,90040,90041],_,hB4,⟨rfl,rfl,rfl⟩,?_⟩;(conv=>whnf);refine az ?_;((conv=>arg 2;arg 1;reduce);(conv=>arg 2;arg 2;tactic=>(refine Eq.trans (b:=(100004,.box ((aH ⟨x.name,m⟩).map .d))::(4,.box ((bN st).map .d))::gB o) ?_ rfl;kernel_rfl)));(conv=>whnf))
  |(refine⟨[4,100003,100004,100034,90032,90040,90041],_,hK,⟨rfl,rfl,rfl⟩,?_⟩;(conv=>whnf);refine az ?_;((conv=>arg 2;arg 1;reduce);(conv=>arg 2;arg 2;tactic=>(refine Eq.trans (b:=(100004,.box ((aH ⟨x.name,m⟩).map .d))::(4,.box ((bN st).map .d))::gB o) ?_ rfl;kernel_rfl)));(conv=>whnf))
  |(refine⟨[4,100003,100004,100034,90032,90040,90041],_,hB7,⟨rfl,rfl,rfl⟩,?_⟩;(conv=>whnf);refine az ?_;((conv=>arg 2;arg 1;reduce);(conv=>arg 2;arg 2;tactic=>(refine Eq.trans (b:=(100004,.box ((aH ⟨x.name,m⟩).map .d))::(4,.box ((bN st).map .d))::gB o) ?_ rfl;kernel_rfl)));(conv=>whnf))
  |(refine⟨[4,100004],_,hS,⟨by kernel_rfl,by kernel_rfl,by kernel_rfl⟩,?_⟩;(conv=>whnf);refine az ?_;((conv=>arg 2;arg 1;reduce);(conv=>arg 2;arg 2;tactic=>(refine Eq.trans (b:=(100004,.box ((aH ⟨x.name,m⟩).map .d))::(4,.box ((bN st).map .d))::gB o) ?_ rfl;kernel_rfl)));(conv=>whnf))
  |(refine And.intro ?_ ?_ <;> (conv=>whnf)))
 all_goals exact eJ hT (ah.keep)
set_option maxHeartbeats 8000000 in
theorem LA(o:aY)(x:bc)(st:cu)(l:List Signed)(hfs:ZSm ⟨x.name,l⟩)(hff:kF ⟨x.name,l⟩)(hne:st.data≠[])(hn:o.w.zones.length<=1000)(hl:x.hosts.length<=1000)(hl0:x.hosts≠[])(hh:∀n∈x.hosts,bn o.w n=true)(hp:o.puts=[])(hs:o.stages.length<=50)(hg0:o.got=[])(hz:aR o.zone=true) :
 vcp dP [100003,100004] pvW 135 Dj (λ_=>gR (uF o x st l)=none) ((fo 5 yZ).getD .skip) (mq dP [100003,100004] Ja (gR (uF o x st l)))
  ⟨[(0,.ptr 100034 0),(3,.d (.ptr (aT x))),(4,.ptr 4 0),(5,.ptr 100004 0)],eI ⟨x.name,l⟩++(4,.box ((bN st).map .d))::bj o⟩:=by
 conv=>whnf
 refine⟨_,ah.refl _,?_⟩
 conv=>whnf
 obtain⟨r,hr⟩:∃r,r=uF o x st l:=⟨_,rfl⟩
 rw[<- hr];have hll:l.length<=20000:=hfs.1;refine⟨Nat,λk=>⟨[(0,.ptr 100034 0),(3,.d (.ptr (aT x))),(4,.ptr 4 0),(5,.ptr 100004 0),(32,.d (.int .i64 ((l.map ak).length:Int))),(33,.d (.int .i64 k))],eI ⟨x.name,(l.take k).map jl++l.drop k⟩++(4,.box ((bN st).map .d))::bj o⟩,
  λk=>k<=l.length,λk=>l.length-k,⟨0,Nat.zero_le _,ah.keep⟩,λk hk=>?_⟩
 conv=>whnf
 refine af (λh1=>?_) (λh1=>?_) <;> (rw[h1];conv=>whnf)
 . have hlt:k<l.length:=by simp at h1;omega
   obtain⟨s,hsk⟩:∃s,l[k]? =some s:=⟨_,ai hlt⟩
   refine⟨aw k,by simp;omega,?_⟩
   conv=>whnf
   have hcat:(((l.take k).map jl++l.drop k).map ak)[k]? =some (ak s):=by
    rw[aM,bW (by simp;omega)];simp[Nat.min_eq_left (Nat.le_of_lt hlt),hsk]
   refine⟨ak s,hcat,?_⟩
   conv=>whnf
   have e:(((l.take k).map jl++l.drop k).map ak).set k (ak (jl s))=((l.take (k+1)).map jl++l.drop (k+1)).map ak:=by
    rw[<- List.map_set,List.set_append_right _ _ (by simp;omega),drop_cons hsk,List.take_add_one,hsk];simp[Nat.min_eq_left (Nat.le_of_lt hlt)]
   exact⟨k+1,hlt,by(show l.length-(k+1)<l.length-k;omega),ah.keep ⟨ae,ae,ae,ae,ae,⟨ao (k:=k) (by omega),rfl⟩,trivial⟩ ⟨ae,⟨congrArg (λr=>some (Blk.row 68 5 r)) e,rfl⟩,ae,ae,ae,ae,ae,trivial⟩⟩
 . obtain rfl:k=l.length:=by simp at h1;omega
   have e:((l.take l.length).map jl++l.drop l.length).map ak=(l.map jl).map ak:=by rw[List.take_length,List.drop_length,List.append_nil]
   refine⟨_,ah.keep (sl:=[(0,.ptr 100034 0),(3,.d (.ptr (aT x))),(4,.ptr 4 0),(5,.ptr 100004 0)]) (h:=eI ⟨x.name,l.map jl⟩++(4,.box ((bN st).map .d))::bj o) (by repeat' (first|exact trivial|refine⟨⟨rfl,rfl⟩,?_⟩)) ⟨⟨rfl,rfl⟩,⟨congrArg (λr=>some (Blk.row 68 5 r)) e,rfl⟩,⟨rfl,rfl⟩,⟨rfl,rfl⟩,⟨rfl,rfl⟩,⟨rfl,rfl⟩,⟨rfl,rfl⟩,trivial⟩,?_⟩;unfold uF at hr;have hps:ZSm ⟨x.name,l.map jl⟩:=⟨by show(l.map jl).length<=_;rw[an];exact hfs.1,λs h=>by
    obtain⟨q,hq,rfl⟩:=List.mem_map.1 h;exact⟨(hfs.2 q hq).1,by simp[jl]⟩⟩
   have hpf:kF ⟨x.name,l.map jl⟩:=λs h=>by
    obtain⟨q,hq,rfl⟩:=List.mem_map.1 h;exact hff q hq
   generalize l.map jl=m at hps hpf hr ⊢
   conv=>whnf
   have hsl:=qV o.w x.hosts;have hsn:cz o.w x.hosts≠[]:=λe=>by rw[e]at hsl;exact hl0 (List.eq_nil_of_length_eq_zero hsl.symm)
   have hV:=bx (pv' :=pvW) (lift (cx' :=dP) (qU o.w x.hosts hl hh) rfl rfl);obtain⟨d0,dt,hdat⟩:∃d t,st.data=d::t:=by
    cases hc:st.data with
    |nil=>exact absurd hc hne
    |cons d t=>exact⟨d,t,rfl⟩
   have hd0:nR st=d0:=by unfold nR;rw[hdat]
   have hget:(st.data.map aG)[(0:Int).toNat]? =some (aG d0):=by rw[hdat];rfl
   rw[hd0]at hr;generalize hsv:cz o.w x.hosts=sv at hsl hsn hV hr
   (refine⟨(by kernel_rfl:bA _=true),?_⟩;conv=>whnf)
   refine⟨[4,100004,90020,100034,90032,90040,90041],_,hV,⟨rfl,rfl,rfl⟩,?_⟩
   conv=>whnf
   refine az ?_
   (conv=>arg 2;arg 1;reduce);(conv=>arg 2;arg 2;tactic=>(refine Eq.trans (b:=eI ⟨x.name,m⟩++(4,.box ((bN st).map .d))::bj o) ?_ rfl;kernel_rfl))
   conv=>whnf
   repeat (refine And.intro (by kernel_rfl:NQ.viewAt _ _ _ _=NQ.viewAt _ _ _ _) ?_;conv=>whnf)
   have hG:=bx (pv' :=pvW) (lift (cx' :=dP) (Dl o x.name x.hosts) rfl rfl);refine⟨[4,100004,90020],_,hG,⟨rfl,rfl,rfl⟩,?_⟩
   conv=>whnf
   refine az ?_
   (conv=>arg 2;arg 1;reduce)
   conv=>whnf
   have hT:=Jb o x st m sv d0 hps hpf hget hsl hsn hsv hn hl hl0 hh hp hs hg0 hz r hr
   conv at hT=>whnf
   exact eJ hT (ah.trans (ah.name 90003 100003 rfl rfl) (ah.keep))
set_option maxHeartbeats 8000000 in
theorem Ly(o:aY)(x:bc)(hn:o.w.zones.length<=1000)(hl:x.hosts.length<=1000)(hl0:x.hosts≠[])(hh:∀n∈x.hosts,bn o.w n=true)(hp:o.puts=[])(hs:o.stages.length<=50)(hg0:o.got=[])(hz:aR o.zone=true) :
 FnP dP pvW 67 [.ptr 100034 0,.agg ((aT x).map .d)] (bj o) (gR (pK o x)):=by
 refine aS [100003,100004] Dj SB Qj Tryz.func67 (by kernel_rfl) rfl (ag rfl) (ag rfl) rfl ?_
 conv=>whnf
 obtain⟨r,hr⟩:∃r,r=pK o x:=⟨_,rfl⟩
 rw[<- hr];unfold pK at hr;have hN:=sA o.zone x.zone 4 (by have:=(cO hz).1;omega);have hne:=ib (s:=x.zone) (k:=4) (kK hz);generalize wfR o.zone x.zone 4=st at hN hr hne;obtain⟨st,b⟩:=st;dsimp only at hN hr hne;cases b with
 |false =>
  rw[if_neg (by decide)]at hN hr;have hN:=lift (cx' :=dP) hN rfl rfl;subst hr
  (refine⟨(by kernel_rfl:bA _=true),?_⟩;conv=>whnf)
  repeat' (first
   |exact⟨[3,100034,90032,90040,90041],_,hN,⟨rfl,rfl,rfl⟩,rfl⟩
   |exact⟨[3,4,100034,90032,90040,90041],_,hN,⟨rfl,rfl,rfl⟩,rfl⟩
   |(refine And.intro (by kernel_rfl:NQ.viewAt _ _ _ _=NQ.viewAt _ _ _ _) ?_;conv=>whnf)
   |(refine And.intro ?_ ?_ <;> (conv=>whnf)))
 |true =>
 rw[if_pos rfl]at hN hr;have hN:=lift (cx' :=dP) hN rfl rfl;have hne:=hne rfl;apply rq (α:=Unit) (P:=λ_=>True) (canon:=λ_=>⟨[(0,.ptr 100034 0),(3,.ptr 3 0),(4,.ptr 4 0)],(3,.box ((aT x).map .d))::(4,.box ((bN st).map .d))::bj o⟩)
 . intro rest
   (refine⟨(by kernel_rfl:bA _=true),?_⟩;conv=>whnf)
   repeat' (first
    |(refine And.intro (by kernel_rfl:NQ.viewAt _ _ _ _=NQ.viewAt _ _ _ _) ?_;conv=>whnf)
    |(refine⟨[3,100034,90032,90040,90041],_,hN,⟨rfl,rfl,rfl⟩,?_⟩;(conv=>whnf);refine az ?_;(conv=>whnf))
    |(refine⟨[3,4,100034,90032,90040,90041],_,hN,⟨rfl,rfl,rfl⟩,?_⟩;(conv=>whnf);refine az ?_;(conv=>whnf))
    |(refine And.intro ?_ ?_ <;> (conv=>whnf)))
   all_goals exact lP (ah.keep) (rest () trivial)
 rintro _ _;unfold App
 conv=>whnf
 clear hN;have hC:=bx (pv' :=pvW) (lift (cx' :=dP) (iY o.zone (by have:=(cO hz).1;omega) (cO hz).2) rfl rfl);refine⟨[3,4,100034,90032,90040,90041],_,hC,⟨rfl,rfl,rfl⟩,?_⟩
 conv=>whnf
 refine az ?_
 conv=>whnf
 refine⟨_,ah.trans (ah.name 5 100004 rfl rfl) (ah.keep (sl:=[(0,.ptr 100034 0),(3,.ptr 3 0),(4,.ptr 4 0),(5,.ptr 100004 0)]) (h:=eI ⟨x.name,o.zone.sets⟩++(3,.box ((aT x).map .d))::(4,.box ((bN st).map .d))::bj o)),?_⟩
 conv=>whnf
 have hW:=bx (pv' :=pvW) (lift (cx' :=dP) (wB 133 x) rfl rfl);have hW1:=bx (pv' :=pvW) (lift (cx' :=dP) (uO ⟨x.name,o.zone.sets⟩ (yA x) 133 x (by have:=(cO hz).1;dsimp only;omega) (λs=>FN s x)) rfl rfl);refine⟨[4,100004,90020,100034,90032,90040,90041],_,hW,⟨by kernel_rfl,by kernel_rfl,by kernel_rfl⟩,?_⟩
 conv=>whnf
 refine az ?_
 (conv=>arg 2;arg 1;reduce)
 conv=>whnf
 refine⟨[4,100034,90032,90040,90041],_,hW1,⟨by kernel_rfl,by kernel_rfl,by kernel_rfl⟩,?_⟩
 conv=>whnf
 refine az ?_
 (conv=>arg 2;arg 1;reduce)
 conv=>whnf
 have hfs:ZSm ⟨x.name,o.zone.sets.filter λs=> !yA x s⟩:=⟨Nat.le_trans (List.length_filter_le ..) (cO hz).1,λs h=>(cO hz).2 s (List.mem_filter.1 h).1⟩
 have hff:kF ⟨x.name,o.zone.sets.filter λs=> !yA x s⟩:=λs h=>kK hz s (List.mem_filter.1 h).1
 have hT:=LA o x st _ hfs hff hne hn hl hl0 hh hp hs hg0 hz;replace hr:r=uF o x st (o.zone.sets.filter λs=> !yA x s):=hr;rw[<- hr]at hT
 conv at hT=>whnf
 exact eJ hT (ah.keep)
theorem Nj(l:List Datum)(p:Datum->Bool)(x:D)(hn:l.length<=100000)(hf:∀s∈l,NQ.Fn cx 191 [.agg (aG s),x] (.d (.bool (p s))) []) :
 NQ.Fn cx 239 [.slice 3 (l.map aG),.fn 191 [] [x]] (.d (.int .i64 (match l.findIdx? p with|some k=>(k:Int)|none=> -1))) []:=by
 refine aK aV mixed Tryz.func239 (by kernel_rfl) rfl (ag rfl) ?_;conv=>whnf
 refine⟨Nat,λk=>⟨[(0,.d (.slice 3 (l.map aG))),(1,.d (.fn 191 [] [x])),(7,.d (.int .i64 ((l.map aG).length:Int))),(8,.d (.int .i64 k))],[]⟩,λk=>k<=l.length/\ ∀j y,j<k->l[j]? =some y->p y=false,λk=>l.length-k,
  ⟨0,⟨by omega,λj y h=>by omega⟩,aC.keep ⟨ae,ae,ae,ae,trivial⟩ trivial⟩,λk hk=>?_⟩
 obtain⟨hk,hall⟩:=hk
 conv=>whnf
 refine af (λh1=>?_) (λh1=>?_) <;> (rw[h1];conv=>whnf)
 . have hlt:k<l.length:=by simp at h1;omega
   obtain⟨s,hs⟩:∃s,l[k]? =some s:=⟨_,ai hlt⟩
   refine⟨aw k,aG s,aB hs,?_⟩
   conv=>whnf
   (refine⟨_,_,hf s (au hs),?_⟩;conv=>whnf)
   refine af (λh2=>?_) (λh2=>?_) <;> (rw[h2];conv=>whnf)
   . refine aj rfl ?_;have:l.findIdx? p=some k:=by
      rw[List.findIdx?_eq_some_iff_getElem];obtain⟨g1,g2⟩:=aq.1 hs;refine⟨g1,by rw[g2];exact h2,λj hj=>?_⟩;have:=hall j (l[j]) hj (ai (by omega));rw[this];decide
     rw[this];rfl
   . refine⟨k+1,⟨hlt,λj y hj hy=>?_⟩,by(show l.length-(k+1)<l.length-k;omega),aC.keep ⟨ae,ae,ae,⟨ao (by omega),rfl⟩,trivial⟩ trivial⟩;rcases Nat.lt_succ_iff_lt_or_eq.1 hj with hj|rfl
     . exact hall j y hj hy
     . rw[hs]at hy;cases hy;exact h2
 . obtain rfl:k=l.length:=by simp at h1;omega
   refine aj rfl ?_;have:l.findIdx? p=none:=by
    rw[List.findIdx?_eq_none_iff];intro x hx;obtain⟨i,hi⟩:=ck hx;exact hall i x (aq.1 hi).1 hi
   rw[this];rfl
theorem Qq(d:Datum)(h:iU):NQ.Fn cx 191 [.agg (aG d),.ptr (eh h)] (.d (.bool (d.n==h.addr))) []:=by
 refine aK aV mixed Tryz.func191 (by kernel_rfl) rfl (ag rfl) ?_;conv=>whnf
 exact aj rfl rfl
theorem Mj(l:List Datum)(p:Datum->Bool)(x:D)(hn:l.length<=100000)(hf:∀s∈l,NQ.Fn cx 191 [.agg (aG s),x] (.d (.bool (p s))) []) :
 NQ.Fn cx 190 [.slice 3 (l.map aG),.fn 191 [] [x]] (.d (.bool (l.any p))) []:=by
 refine aK aV mixed Tryz.func190 (by kernel_rfl) rfl (ag rfl) ?_;conv=>whnf
 (refine⟨_,_,Nj l p x hn hf,?_⟩;conv=>whnf)
 refine aj rfl ?_;exact congrArg (λb=>AV.d (D.bool b)) (vT p l)
def vg(data:List Datum)(but:Int)(i:Nat)(h:iU):Bool:=((i:Int) != but)&&data.any λd=>d.n==h.addr
def mW(data:List Datum)(but:Int):Nat->List iU->List Int
 |_,[]=>[]
 |i,h::t=>(if vg data but i h=true then[(i:Int)]else[])++mW data but (i+1) t
noncomputable def MK:Cx:={cx with bld:=[]}
theorem Sz:aZ MK:=aV
theorem Qh:MK.P.follows .mixedOrders=true:=mixed
set_option maxHeartbeats 4000000 in
theorem DJ(o:aY)(data:List Datum)(but:Int)(hd:data.length<=100000)(hh:o.w.hosts.length<=100000):FnP MK pvW 127 [.ptr 100034 0,.d (.slice 3 (data.map aG)),.d (.int .i64 but)] (bj o) (some (.d (.kmap (cT (mW data but 0 o.w.hosts))),bj o)):=by
 refine aS [] (fun|5=>[9]|_=>[]) Sz Qh Tryz.func127 (by kernel_rfl) rfl (ag rfl) (ag rfl) rfl ?_
 conv=>whnf
 refine⟨Nat×List Int,λq=>⟨[(0,.ptr 100034 0),(1,.d (.slice 3 (data.map aG))),(2,.d (.int .i64 but)),(7,.omap 10),(15,.d (.slice 3 (o.w.hosts.map eh))),(16,.d (.int .i64 ((o.w.hosts.map eh).length:Int))),(17,.d (.int .i64 q.1))],(10,.kmap (cT q.2))::bj o⟩,
  λq=>q.1<=o.w.hosts.length/\q.2++mW data but q.1 (o.w.hosts.drop q.1)=mW data but 0 o.w.hosts/\ ∀v∈q.2,v<(q.1:Int),λq=>o.w.hosts.length-q.1,⟨(0,[]),⟨Nat.zero_le _,rfl,λv h=>by cases h⟩,ah.keep⟩,?_⟩
 rintro⟨k,m⟩ ⟨hk,hm,hlt0⟩;dsimp only at hk hm hlt0
 conv=>whnf
 refine af (λh1=>?_) (λh1=>?_) <;> (rw[h1];conv=>whnf)
 . have hlt:k<o.w.hosts.length:=by simp at h1;omega
   obtain⟨h,hhk⟩:∃h,o.w.hosts[k]? =some h:=⟨_,ai hlt⟩
   rw[drop_cons hhk]at hm;have hm:m++((if vg data but k h=true then[(k:Int)]else[])++mW data but (k+1) (o.w.hosts.drop (k+1)))=mW data but 0 o.w.hosts:=hm;rw[<- List.append_assoc]at hm;refine⟨aw k,eh h,aB hhk,?_⟩
   conv=>whnf
   have skip:vg data but k h=false->m++mW data but (k+1) (o.w.hosts.drop (k+1))=mW data but 0 o.w.hosts:=λe=>by rw[if_neg (by rw[e];decide),List.append_nil]at hm;exact hm
   have keepk:∀v∈m,v<((k+1:Nat):Int):=λv h=>by have:=hlt0 v h;omega
   refine af (λh2=>?_) (λh2=>?_) <;> (rw[h2];conv=>whnf)
   . (refine⟨_,_,Mj data (λd=>d.n==h.addr) (.ptr (eh h)) hd (λd _=>Qq d h),?_⟩;conv=>whnf)
     cases hc:data.any (λd=>d.n==h.addr)with
     |true =>
      conv=>whnf
      have hnc:m.contains (k:Int)=false:=by
       rw[<- Bool.not_eq_true,kE];intro h;have:=hlt0 _ h;omega
      rw[if_pos (by unfold vg;rw[hc,iT];exact h2)]at hm;refine⟨_,Cm hnc,?_⟩
      conv=>whnf
      exact⟨(k+1,m++[(k:Int)]),⟨hlt,hm,λv h=>by
       rcases List.mem_append.1 h with h|h
       . exact keepk v h
       . rcases List.mem_singleton.1 h with rfl;dsimp only;omega⟩,by(show o.w.hosts.length-(k+1)<o.w.hosts.length-k;omega),ah.keep ⟨ae,ae,ae,ae,ae,ae,⟨ao (k:=k) (by omega),rfl⟩,trivial⟩⟩
     |false =>
      conv=>whnf
      exact⟨(k+1,m),⟨hlt,skip (by unfold vg;rw[hc,kD]),keepk⟩,by(show o.w.hosts.length-(k+1)<o.w.hosts.length-k;omega),ah.keep ⟨ae,ae,ae,ae,ae,ae,⟨ao (k:=k) (by omega),rfl⟩,trivial⟩⟩
   . exact⟨(k+1,m),⟨hlt,skip (by unfold vg;rw[show((k:Int) != but)=false from h2];rfl),keepk⟩,by(show o.w.hosts.length-(k+1)<o.w.hosts.length-k;omega),ah.keep ⟨ae,ae,ae,ae,ae,ae,⟨ao (k:=k) (by omega),rfl⟩,trivial⟩⟩
 . obtain rfl:k=o.w.hosts.length:=by simp at h1;omega
   rw[List.drop_length]at hm;have hm:m=mW data but 0 o.w.hosts:=by rw[<- hm];exact(List.append_nil _).symm
   subst hm;exact eZ (ah.qL [10]) rfl rfl rfl
abbrev ba(s:Bs):List D:=[.str s]
theorem KB(l:List Bs)(x:Bs)(hl:l.length<=100000):NQ.Fn cx 240 [.slice 1 (l.map ba),.str x] (.d (.int .i64 (match l.findIdx? (· ==x)with|some k=>(k:Int)|none=> -1))) []:=by
 refine aK aV mixed Tryz.func240 (by kernel_rfl) rfl (ag rfl) ?_;conv=>whnf
 refine⟨Nat,λk=>⟨[(0,.d (.slice 1 (l.map ba))),(1,.d (.str x)),(7,.d (.int .i64 ((l.map ba).length:Int))),(8,.d (.int .i64 k))],[]⟩,λk=>k<=l.length/\ ∀j y,j<k->l[j]? =some y->(y==x)=false,λk=>l.length-k,
  ⟨0,⟨by omega,λj y h=>by omega⟩,aC.keep ⟨ae,ae,ae,ae,trivial⟩ trivial⟩,λk ⟨hk,hall⟩=>?_⟩
 conv=>whnf
 refine af (λh1=>?_) (λh1=>?_) <;> (rw[h1];conv=>whnf)
 . have hlt:k<l.length:=by simp at h1;omega
   obtain⟨y,hy⟩:∃s,l[k]? =some s:=⟨_,ai hlt⟩
   refine⟨aw k,ba y,aB hy,?_⟩
   conv=>whnf
   (refine af (λh=>?_) (λh=>?_) <;> (rw[h];conv=>whnf))
   . refine aj rfl ?_;have:l.findIdx? (· ==x)=some k:=by
      rw[List.findIdx?_eq_some_iff_getElem];refine⟨hlt,?_,λj hj=>?_⟩
      . obtain⟨_,e⟩:=aq.1 hy;rw[e];simp at h ⊢;exact h.symm
      . have:=hall j l[j] hj (ai (by omega));simpa using this
     rw[this];rfl
   . refine⟨k+1,⟨hlt,λj z hj hz=>?_⟩,by(show l.length-(k+1)<l.length-k;omega),aC.keep ⟨ae,ae,ae,⟨ao (by omega),rfl⟩,trivial⟩ trivial⟩;rcases Nat.lt_or_eq_of_le (Nat.le_of_lt_succ hj)with h2|rfl
     . exact hall j z h2 hz
     . rw[hy]at hz;cases hz;simp at h ⊢;exact λe=>h e.symm
 . obtain rfl:k=l.length:=by simp at h1;omega
   refine aj rfl ?_;have:l.findIdx? (· ==x)=none:=by
    rw[List.findIdx?_eq_none_iff];intro y hy;obtain⟨j,hj⟩:=ck hy;exact hall j y (aq.1 hj).1 hj
   rw[this];rfl
theorem tD(l:List Bs)(x:Bs)(hl:l.length<=100000):NQ.Fn cx 192 [.slice 1 (l.map ba),.str x] (.d (.bool (l.contains x))) []:=by
 refine aK aV mixed Tryz.func192 (by kernel_rfl) rfl (ag rfl) ?_;conv=>whnf
 (refine⟨_,_,KB l x hl,?_⟩;conv=>whnf)
 refine aj rfl ?_;show AV.d (D.bool (decide ((match l.findIdx? (· ==x)with|some k=>(k:Int)|none=> -1)>=0)))=_
 congr 2
 cases h:l.findIdx? (· ==x)with
 |some k =>
  obtain⟨h1,h2,_⟩:=List.findIdx?_eq_some_iff_getElem.1 h;have:l.contains x=true:=by
   rw[kE];have e:l[k]=x:=by simpa using h2
   exact e ▸ List.getElem_mem h1
  rw[this,decide_eq_true];exact aw k
 |none =>
  have:l.contains x=false:=by
   rw[<- Bool.not_eq_true,kE];intro hm;have:=List.findIdx?_eq_none_iff.1 h x hm;simp at this
  rw[this];rfl
def jR(f:al->Bool)(l:List Bs)(p:al):List Bs:=if (f p&& !l.contains p.zone.apex)=true then l++[p.zone.apex]else l
def cP(f:al->Bool)(zs:List al):List Bs:=zs.foldl (jR f) []
theorem Co{f:al->Bool}{zs:List al}{k:Nat}{p:al}(h:zs[k]? =some p):cP f (zs.take (k+1))=jR f (cP f (zs.take k)) p:=by
 unfold cP;rw[List.take_add_one,h,List.foldl_append];rfl
theorem mN(f:al->Bool)(zs:List al):(cP f zs).length<=zs.length:=by
 have:∀(zs:List al) (l:List Bs),(zs.foldl (jR f) l).length<=l.length+zs.length:=λzs=>by
  induction zs with
  |nil=>intro l;exact Nat.le_refl _
  |cons p t ih =>
   intro l;have h1:=ih (jR f l p);have h2:(jR f l p).length<=l.length+1:=by
    unfold jR;split
    . simp
    . omega
   show(t.foldl (jR f) (jR f l p)).length<=_
   simp only[List.length_cons];omega
 have:=this zs [];simpa [cP] using this
noncomputable def zD:Cx:={cx with chg:=fG [(129,9),(130,9)],bld:=[33]}
theorem Jl:aZ zD:=aV
theorem vm:zD.P.follows .mixedOrders=true:=mixed
abbrev lK(l:List Int):List (Nat×Blk):=[(100007,.box [.d (.kmap (cT l))])]
theorem JH(l:List Int)(p:al):FnP zD pvW 129 [.agg ((aA p).map .d),.ptr 100007 0] (lK l) (some (.d (.bool (l.contains p.host)),lK l)):=by
 refine aS [] (fun|_=>[]) Jl vm Tryz.func129 (by kernel_rfl) rfl (ag rfl) (ag rfl) rfl ?_
 conv=>whnf
 refine⟨_,nA p.host l,?_⟩;cases l.contains p.host with
 |true =>
  conv=>whnf
  exact bF rfl rfl rfl
 |false =>
  conv=>whnf
  exact bF rfl rfl rfl
theorem JI(p:al):FnP zD pvW 130 [.agg ((aA p).map .d)] [] (some (.d (.bool true),[])):=by
 refine aS [] (fun|_=>[]) Jl vm Tryz.func130 (by kernel_rfl) rfl (ag rfl) (ag rfl) rfl ?_
 conv=>whnf
 exact gF rfl rfl rfl
set_option maxHeartbeats 4000000 in
theorem EM(o:aY)(m:List Int)(hn:o.w.zones.length<=1000):FnP zD pvW 128 [.ptr 100034 0,.fn 129 [] [.ptr 100007 0]] (lK m++bj o) (some (.d (.slice 1 ((cP (λp=>m.contains p.host) o.w.zones).map ba)),lK m++bj o)):=by
 refine aS [] (fun|5=>[33333]|_=>[]) Jl vm Tryz.func128 (by kernel_rfl) rfl (ag rfl) (ag rfl) rfl ?_
 conv=>whnf
 refine⟨Nat,λk=>⟨[(0,.ptr 100034 0),(1,.fn 129 [] [.ptr 100007 0]),(5,.own 55),(12,.d (.slice 3 (o.w.zones.map aA))),(13,.d (.int .i64 ((o.w.zones.map aA).length:Int))),(14,.d (.int .i64 k))],(55,.row 9 1 ((cP (λp=>m.contains p.host) (o.w.zones.take k)).map ba))::lK m++bj o⟩,
  λk=>k<=o.w.zones.length,λk=>o.w.zones.length-k,⟨0,Nat.zero_le _,(ah.jN 5 55 1 9 1 rfl rfl (by decide)).trans (ah.keep)⟩,λk hk=>?_⟩
 conv=>whnf
 refine af (λh1=>?_) (λh1=>?_) <;> (rw[h1];conv=>whnf)
 . have hlt:k<o.w.zones.length:=by simp at h1;omega
   obtain⟨p,hpk⟩:∃p,o.w.zones[k]? =some p:=⟨_,ai hlt⟩
   have hst:=Co (f:=(λp=>m.contains p.host)) hpk;have hlen:=mN ((λp=>m.contains p.host)) (o.w.zones.take k);have hlen2:(o.w.zones.take k).length<=k:=by simp;omega
   have skip:((λp=>m.contains p.host) p&& !(cP (λp=>m.contains p.host) (o.w.zones.take k)).contains p.zone.apex)=false->cP (λp=>m.contains p.host) (o.w.zones.take (k+1))=cP (λp=>m.contains p.host) (o.w.zones.take k):=λe=>by rw[hst];unfold jR;rw[if_neg (by rw[e];decide)]
   refine⟨aw k,aA p,aB hpk,?_⟩
   conv=>whnf
   have hC:=JH m p;refine⟨[7,55,100034,90032,90040,90041],_,hC,⟨by kernel_rfl,by kernel_rfl,by kernel_rfl⟩,?_⟩
   conv=>whnf
   refine az ?_
   conv=>whnf
   cases hfp:m.contains p.host with
   |false =>
    conv=>whnf
    have e:=skip (by(show(m.contains p.host&&_)=false);rw[hfp];rfl);exact⟨k+1,hlt,by(show o.w.zones.length-(k+1)<o.w.zones.length-k;omega),ah.keep ⟨ae,ae,ae,ae,ae,⟨ao (k:=k) (by omega),rfl⟩,trivial⟩ ⟨⟨congrArg (λr:List Bs=>some (Blk.row 9 1 (r.map ba))) e.symm,rfl⟩,ae,ae,ae,ae,ae,trivial⟩⟩
   |true =>
   conv=>whnf
   refine⟨_,tD (cP (λp=>m.contains p.host) (o.w.zones.take k)) p.zone.apex (by omega),by kernel_rfl,?_⟩
   conv=>whnf
   cases hc:(cP (λp=>m.contains p.host) (o.w.zones.take k)).contains p.zone.apex with
   |true =>
    conv=>whnf
    have e:=skip (by rw[hc];simp);exact⟨k+1,hlt,by(show o.w.zones.length-(k+1)<o.w.zones.length-k;omega),ah.keep ⟨ae,ae,ae,ae,ae,⟨ao (k:=k) (by omega),rfl⟩,trivial⟩ ⟨⟨congrArg (λr:List Bs=>some (Blk.row 9 1 (r.map ba))) e.symm,rfl⟩,ae,ae,ae,ae,ae,trivial⟩⟩
   |false =>
    conv=>whnf
    refine⟨by(show((cP (λp=>m.contains p.host) (o.w.zones.take k)).map ba).length+1<=_;rw[an];omega),by(show(((cP (λp=>m.contains p.host) (o.w.zones.take k)).map ba).length+1)*16<=_;rw[an];omega),?_⟩
    conv=>whnf
    have e:(cP (λp=>m.contains p.host) (o.w.zones.take k)).map ba++[[.str p.zone.apex]]=(cP (λp=>m.contains p.host) (o.w.zones.take (k+1))).map ba:=by
     rw[hst];unfold jR;rw[if_pos (by rw[hc];show(m.contains p.host&&true)=true;rw[hfp];rfl),List.map_append];rfl
    exact⟨k+1,hlt,by(show o.w.zones.length-(k+1)<o.w.zones.length-k;omega),ah.keep ⟨ae,ae,ae,ae,ae,⟨ao (k:=k) (by omega),rfl⟩,trivial⟩ ⟨⟨congrArg (λr=>some (Blk.row 9 1 r)) e,rfl⟩,ae,ae,ae,ae,ae,trivial⟩⟩
 . obtain rfl:k=o.w.zones.length:=by simp at h1;omega
   exact eZ (ah.qL [55]) rfl (by rw[List.take_length];rfl) rfl
set_option maxHeartbeats 4000000 in
theorem EN(o:aY)(hn:o.w.zones.length<=1000):FnP zD pvW 128 [.ptr 100034 0,.d (.fn 130 [] [])] (bj o) (some (.d (.slice 1 ((cP (λ_=>true) o.w.zones).map ba)),bj o)):=by
 refine aS [] (fun|5=>[33333]|_=>[]) Jl vm Tryz.func128 (by kernel_rfl) rfl (ag rfl) (ag rfl) rfl ?_
 conv=>whnf
 refine⟨Nat,λk=>⟨[(0,.ptr 100034 0),(1,.d (.fn 130 [] [])),(5,.own 55),(12,.d (.slice 3 (o.w.zones.map aA))),(13,.d (.int .i64 ((o.w.zones.map aA).length:Int))),(14,.d (.int .i64 k))],(55,.row 9 1 ((cP (λ_=>true) (o.w.zones.take k)).map ba))::bj o⟩,
  λk=>k<=o.w.zones.length,λk=>o.w.zones.length-k,⟨0,Nat.zero_le _,(ah.jN 5 55 1 9 1 rfl rfl (by decide)).trans (ah.keep)⟩,λk hk=>?_⟩
 conv=>whnf
 refine af (λh1=>?_) (λh1=>?_) <;> (rw[h1];conv=>whnf)
 . have hlt:k<o.w.zones.length:=by simp at h1;omega
   obtain⟨p,hpk⟩:∃p,o.w.zones[k]? =some p:=⟨_,ai hlt⟩
   have hst:=Co (f:=(λ_=>true)) hpk;have hlen:=mN ((λ_=>true)) (o.w.zones.take k);have hlen2:(o.w.zones.take k).length<=k:=by simp;omega
   have skip:((λ_=>true) p&& !(cP (λ_=>true) (o.w.zones.take k)).contains p.zone.apex)=false->cP (λ_=>true) (o.w.zones.take (k+1))=cP (λ_=>true) (o.w.zones.take k):=λe=>by rw[hst];unfold jR;rw[if_neg (by rw[e];decide)]
   refine⟨aw k,aA p,aB hpk,?_⟩
   conv=>whnf
   have hC:=JI p;refine⟨[7,55,100034,90032,90040,90041],_,hC,⟨by kernel_rfl,by kernel_rfl,by kernel_rfl⟩,?_⟩
   conv=>whnf
   refine az ?_
   conv=>whnf
   refine⟨_,tD (cP (λ_=>true) (o.w.zones.take k)) p.zone.apex (by omega),by kernel_rfl,?_⟩
   conv=>whnf
   cases hc:(cP (λ_=>true) (o.w.zones.take k)).contains p.zone.apex with
   |true =>
    conv=>whnf
    have e:=skip (by rw[hc];simp);exact⟨k+1,hlt,by(show o.w.zones.length-(k+1)<o.w.zones.length-k;omega),ah.keep ⟨ae,ae,ae,ae,ae,⟨ao (k:=k) (by omega),rfl⟩,trivial⟩ ⟨⟨congrArg (λr:List Bs=>some (Blk.row 9 1 (r.map ba))) e.symm,rfl⟩,ae,ae,ae,ae,trivial⟩⟩
   |false =>
    conv=>whnf
    refine⟨by(show((cP (λ_=>true) (o.w.zones.take k)).map ba).length+1<=_;rw[an];omega),by(show(((cP (λ_=>true) (o.w.zones.take k)).map ba).length+1)*16<=_;rw[an];omega),?_⟩
    conv=>whnf
    have e:(cP (λ_=>true) (o.w.zones.take k)).map ba++[[.str p.zone.apex]]=(cP (λ_=>true) (o.w.zones.take (k+1))).map ba:=by
     rw[hst];unfold jR;rw[if_pos (by rw[hc];rfl),List.map_append];rfl
    exact⟨k+1,hlt,by(show o.w.zones.length-(k+1)<o.w.zones.length-k;omega),ah.keep ⟨ae,ae,ae,ae,ae,⟨ao (k:=k) (by omega),rfl⟩,trivial⟩ ⟨⟨congrArg (λr=>some (Blk.row 9 1 r)) e,rfl⟩,ae,ae,ae,ae,trivial⟩⟩
 . obtain rfl:k=o.w.zones.length:=by simp at h1;omega
   exact eZ (ah.qL [55]) rfl (by rw[List.take_length];rfl) rfl
def gL(m:List Int)(l:List al):List al:=(l.filter λp=>m.contains p.host).map λp=>⟨p.host,⟨p.zone.apex,[]⟩⟩
theorem Bi(m:List Int)(l:List al):(gL m l).length<=l.length:=by
 unfold gL;rw[an];exact List.length_filter_le ..
def uV(o:aY)(m:List Int):aY:=cE {cE o with puts:=gL m o.w.zones}
noncomputable def gO:Cx:={cx with chg:=fG [(113,10),(62,10),(111,9),(127,9),(128,9),(114,9),(122,9),(116,9),(120,9),(119,9),(115,9)],bld:=[83,118]}
theorem Sr:aZ gO:=aV
theorem Qa:gO.P.follows .mixedOrders=true:=mixed
def Nc:Nat->List Nat:=fun|3=>[55555]|4=>[33333]|5=>[33333]|6=>[33333,55555]|9=>[33333]|10=>[33333]|11=>[33333]|13=>[33333]|14=>[55555]|15=>[33333,55555]|18=>[33333]|19=>[55555]|21=>[33333,55555]|23=>[33333,55555]|24=>[55555]|28=>[33333]|30=>[33333,55555]|_=>[]
noncomputable abbrev JF:Code:=(Tryz.f66).body.getD .skip
noncomputable abbrev QP:List ResultVar:=(Tryz.f66).results.toList
set_option maxHeartbeats 4000000 in
theorem GY(o:aY)(m:List Int)(hn:o.w.zones.length<=1000)(hp:o.puts.length<=100000)(hs:o.stages.length<=100)(hgl:∀a,(bH o.got a).length<=1000)(hpz:∀p∈o.puts,p.zone.sets.length<=100000)(hpa:∀p∈o.puts,iG o.w o.got p=false) :
 vcp gO [100007] pvW 148 Nc (λ_=>gR (some (uV o m))=none) ((fo 23 JF).getD .skip) (mq gO [100007] QP (gR (some (uV o m))))
  ⟨[(0,.ptr 100034 0),(7,.ptr 100007 0)],lK m++bj o⟩:=by
 conv=>whnf
 refine⟨_,ah.refl _,?_⟩
 conv=>whnf
 have hFi:=lift (cx' :=gO) (jK o hn hp (by omega) hgl hpz hpa) rfl rfl;refine⟨[100007],_,hFi,⟨rfl,rfl,rfl⟩,?_⟩
 conv=>whnf
 refine az ?_
 conv=>whnf
 have hs1:(cE o).stages.length<=101:=nj hs;have hE:uV o m=cE {cE o with puts:=gL m o.w.zones}:=rfl;have hw1:(cE o).w=o.w:=rfl;have hp1:(cE o).puts=[]:=rfl;have hgl1:∀a,(bH (cE o).got a).length<=1000:=hgl;refine⟨_,ah.keep (sl:=[(0,.ptr 100034 0),(7,.ptr 100007 0)]) (h:=lK m++bj (cE o)),?_⟩;rw[hE];generalize cE o=o1 at hs1 hw1 hp1 hgl1 ⊢;rw[<- hw1];rw[<- hw1]at hn
 conv=>whnf
 refine⟨Nat×List al,λq=>⟨[(0,.ptr 100034 0),(7,.ptr 100007 0),(128,.d (.slice 3 (o1.w.zones.map aA))),(129,.d (.int .i64 ((o1.w.zones.map aA).length:Int))),(130,.d (.int .i64 q.1))],lK m++bj {o1 with puts:=q.2}⟩,
  λq=>q.1<=o1.w.zones.length/\q.2++gL m (o1.w.zones.drop q.1)=gL m o1.w.zones/\q.2.length<=q.1,λq=>o1.w.zones.length-q.1,⟨(0,[]),⟨Nat.zero_le _,rfl,Nat.le_refl _⟩,ah.keep (by repeat' (first|exact trivial|refine⟨⟨rfl,rfl⟩,?_⟩)) ⟨⟨rfl,rfl⟩,⟨rfl,rfl⟩,⟨rfl,rfl⟩,⟨congrArg (λr:List al=>some (Blk.row 45 3 (r.map aA))) hp1,rfl⟩,⟨rfl,rfl⟩,trivial⟩⟩,?_⟩
 rintro⟨k,ps⟩ ⟨hk,hs,hlp⟩;dsimp only at hk hs hlp
 conv=>whnf
 refine af (λh1=>?_) (λh1=>?_) <;> (rw[h1];conv=>whnf)
 . have hlt:k<o1.w.zones.length:=by simp at h1;omega
   obtain⟨p,hpk⟩:∃p,o1.w.zones[k]? =some p:=⟨_,ai hlt⟩
   have hd:gL m (o1.w.zones.drop k)=(if m.contains p.host=true then[⟨p.host,⟨p.zone.apex,[]⟩⟩]else[])++gL m (o1.w.zones.drop (k+1)):=by
    rw[drop_cons hpk];unfold gL;rw[List.filter_cons];split <;> rfl
   rw[hd, <- List.append_assoc]at hs;refine⟨aw k,aA p,aB hpk,?_⟩
   conv=>whnf
   refine⟨_,nA p.host m,?_⟩;cases hc:m.contains p.host with
   |false =>
    rw[if_neg (by rw[hc];decide),List.append_nil]at hs
    conv=>whnf
    exact⟨(k+1,ps),⟨hlt,hs,by dsimp only;omega⟩,by(show o1.w.zones.length-(k+1)<o1.w.zones.length-k;omega),ah.keep ⟨ae,ae,ae,ae,⟨ao (k:=k) (by omega),rfl⟩,trivial⟩⟩
   |true =>
    rw[if_pos hc]at hs
    conv=>whnf
    have hP:=lift (cx' :=gO) (Ei {o1 with puts:=ps} p.host p.zone.apex (by dsimp only;omega)) rfl rfl;refine⟨[20,100007],_,hP,⟨rfl,rfl,rfl⟩,?_⟩
    conv=>whnf
    refine az ?_
    conv=>whnf
    exact⟨(k+1,ps++[⟨p.host,⟨p.zone.apex,[]⟩⟩]),⟨hlt,hs,by simp;omega⟩,by(show o1.w.zones.length-(k+1)<o1.w.zones.length-k;omega),ah.keep ⟨ae,ae,ae,ae,⟨ao (k:=k) (by omega),rfl⟩,trivial⟩⟩
 . obtain rfl:k=o1.w.zones.length:=by simp at h1;omega
   rw[List.drop_length]at hs;have hs:ps=gL m o1.w.zones:=by rw[<- hs];exact(List.append_nil _).symm
   have hsl:=Bi m o1.w.zones;subst hs;have hFi:=lift (cx' :=gO) (jK {o1 with puts:=gL m o1.w.zones} hn (by dsimp only;omega) (by dsimp only;omega) hgl1 (λp hp=>by
    unfold gL at hp;obtain⟨q,_,rfl⟩:=List.mem_map.1 hp;simp) (λp hp=>by
    dsimp only at hp;unfold gL at hp;obtain⟨q,_,rfl⟩:=List.mem_map.1 hp;exact Ch)) rfl rfl
   refine⟨_,ah.keep (sl:=[(0,.ptr 100034 0)]) (h:=bj {o1 with puts:=gL m o1.w.zones}),?_⟩
   conv=>whnf
   refine⟨[],_,hFi,⟨rfl,rfl,rfl⟩,?_⟩
   conv=>whnf
   refine az ?_
   conv=>whnf
   exact .inl ⟨[],ah.keep trivial,rfl⟩
def kG(o:aY)(x:bc)(ad:Datum):List Bs->List al->Option (List al)
 |[],ps=>some ps
 | a :: t, ps => if (wfR (bS o.w.zones a).1 x.name 1).2 = true then (match cJ o.since o.till (bz (bS o.w.zones a).1 x.name 1 o.life [ad]) with
     |none=>none
     |some z=>kG o x ad t (ps++du z o.w.zones++dH z (bH o.got z.apex)))else kG o x ad t ps
theorem GW(o : aY)(x : bc)(ad : Datum)(a : Bs)(t : List Bs)(ps : List al) : kG o x ad (a :: t) ps = if (wfR (bS o.w.zones a).1 x.name 1).2 = true then (match cJ o.since o.till (bz (bS o.w.zones a).1 x.name 1 o.life [ad]) with
      |none=>none
      |some z=>kG o x ad t (ps++du z o.w.zones++dH z (bH o.got z.apex)))else kG o x ad t ps:=rfl
def tj(o:aY)(x:bc)(ad:Datum)(m:List Int):Option aY:=match kG o x ad (cP (λ_=>true) o.w.zones) []with
 |none=>none
 |some ps=>some (uV {o with puts:=ps} m)
theorem Hq{zs:List al}{a s:Bs}{k:Int}(hv:∀p∈zs,aR p.zone=true)(h:(wfR (bS zs a).1 s k).2=true):aR (bS zs a).1=true:=by
 rcases gj zs a with ⟨p,hp,hc,_⟩|⟨hc,_⟩
 . rw[hc];exact hv p hp
 . rw[hc]at h;cases h
set_option maxHeartbeats 8000000 in
theorem GX(o:aY)(x:bc)(ad:Datum)(m:List Int)(hv:∀p∈o.w.zones,aR p.zone=true)(hn:o.w.zones.length<=20)(hp:o.puts=[])(hs:o.stages.length<=100)(hgl:∀a,(bH o.got a).length<=20) :
 vcp gO [100007] pvW 148 Nc (λ_=>gR (tj o x ad m)=none) ((fo 15 JF).getD .skip) (mq gO [100007] QP (gR (tj o x ad m)))
  ⟨[(0,.ptr 100034 0),(3,.ptr 3 0),(7,.ptr 100007 0),(12,.d (.slice 3 [aG ad]))],(3,.box ((aT x).map .d))::lK m++bj o⟩:=by
 conv=>whnf
 refine⟨_,ah.refl _,?_⟩
 conv=>whnf
 obtain⟨r,hr⟩:∃r,r=tj o x ad m:=⟨_,rfl⟩
 rw[<- hr];have hX:=lift (cx' :=gO) (EN o (by omega)) rfl rfl;have hXl:=mN (λ_=>true) o.w.zones;have hr:r=match kG o x ad (cP (λ_=>true) o.w.zones) []with|none=>none|some ps=>some (uV {o with puts:=ps} m):=hr
 generalize cP (λ_=>true) o.w.zones=l at hX hXl hr
 refine⟨[3,100007],_,hX,⟨by kernel_rfl,by kernel_rfl,by kernel_rfl⟩,?_⟩
 conv=>whnf
 refine az ?_
 conv=>whnf
 refine⟨Nat×List al,λq=>⟨[(0,.ptr 100034 0),(3,.ptr 3 0),(7,.ptr 100007 0),(12,.d (.slice 3 [aG ad])),(85,.d (.slice 1 (l.map ba))),(86,.d (.int .i64 ((l.map ba).length:Int))),(87,.d (.int .i64 q.1))],(3,.box ((aT x).map .d))::lK m++bj {o with puts:=q.2}⟩,
  λq=>q.1<=l.length/\kG o x ad (l.drop q.1) q.2=kG o x ad l []/\q.2.length<=40*q.1/\ ∀p∈q.2,iG o.w o.got p=false/\p.zone.sets.length<=20000,λq=>l.length-q.1,⟨(0,[]),⟨Nat.zero_le _,rfl,Nat.le_refl _,λp h=>by cases h⟩,ah.keep (by repeat' (first|exact trivial|refine⟨⟨rfl,rfl⟩,?_⟩)) ⟨⟨rfl,rfl⟩,⟨rfl,rfl⟩,⟨rfl,rfl⟩,⟨rfl,rfl⟩,⟨congrArg (λr:List al=>some (Blk.row 45 3 (r.map aA))) hp,rfl⟩,⟨rfl,rfl⟩,trivial⟩⟩,?_⟩
 rintro⟨k,ps⟩ ⟨hk,hps,hpl,hpp⟩;dsimp only at hk hps hpl hpp
 conv=>whnf
 refine af (λh1=>?_) (λh1=>?_) <;> (rw[h1];conv=>whnf)
 . have hlt:k<l.length:=by simp at h1;omega
   obtain⟨a,hak⟩:∃a,l[k]? =some a:=⟨_,ai hlt⟩
   rw[drop_cons hak]at hps;rw[GW]at hps;refine⟨aw k,ba a,aB hak,?_⟩
   conv=>whnf
   have hC:=bx (pv' :=pvW) (lift (cx' :=gO) (gZ o.w a hv (by omega)) rfl rfl);have hcf:=Ay hv a;have hcv:=Hq (a:=a) (s:=x.name) (k:=1) hv;generalize bS o.w.zones a=c at hC hcf hcv hps;obtain⟨c,cb⟩:=c;dsimp only at hC hcf hcv hps;refine⟨[3,100007,100034,90032,90040,90041],_,hC,⟨by kernel_rfl,by kernel_rfl,by kernel_rfl⟩,?_⟩
   conv=>whnf
   refine az ?_
   conv=>whnf
   refine⟨_,ah.keep (sl:=[(0,.ptr 100034 0),(3,.ptr 3 0),(7,.ptr 100007 0),(12,.d (.slice 3 [aG ad])),(15,.ptr 15 0),(85,.d (.slice 1 (l.map ba))),(86,.d (.int .i64 ((l.map ba).length:Int))),(87,.d (.int .i64 k))]) (h:=(3,.box ((aT x).map .d))::(15,.box ((aH c).map .d))::lK m++bj {o with puts:=ps}),?_⟩
   conv=>whnf
   have hF:=lO c x.name 1 hcf;generalize wfR c x.name 1=s1 at hF hcv hps;obtain⟨s1,b1⟩:=s1;dsimp only at hF hcv hps
   (refine⟨_,_,hF,?_⟩;conv=>whnf)
   cases b1 with
   |false =>
    rw[if_neg (by decide)]at hps
    conv=>whnf
    exact⟨(k+1,ps),⟨hlt,hps,by dsimp only;omega,hpp⟩,by(show l.length-(k+1)<l.length-k;omega),ah.keep ⟨ae,ae,ae,ae,ae,ae,⟨ao (k:=k) (by omega),rfl⟩,trivial⟩⟩
   |true =>
    rw[if_pos rfl]at hps;have hcv:=hcv rfl
    conv=>whnf
    refine⟨_,ah.keep (sl:=[(0,.ptr 100034 0),(3,.ptr 3 0),(7,.ptr 100007 0),(12,.d (.slice 3 [aG ad])),(15,.ptr 15 0),(85,.d (.slice 1 (l.map ba))),(86,.d (.int .i64 ((l.map ba).length:Int))),(87,.d (.int .i64 k))]) (h:=(3,.box ((aT x).map .d))::(15,.box ((aH c).map .d))::lK m++bj {o with puts:=ps}),?_⟩
    conv=>whnf
    clear hC hF;have hB:=bx (pv' :=pvW) (lift (cx' :=gO) (dD x.name 1 o.life [ad]) rfl rfl);have hS:=lift (cx' :=gO) (qv {o with puts:=ps} c x.name 1 o.life [ad] hcv (by simp) (λh=>ib (fJ (kK hcv) (by simp)) h)) rfl rfl
    change FnP _ _ _ _ _ (lL _ (cJ o.since o.till (bz c x.name 1 o.life [ad])))at hS
    cases hq:cJ o.since o.till (bz c x.name 1 o.life [ad])with
    |none =>
     rw[hq]at hS hps;have hr:r=none:=by rw[hr, <- hps]
     subst hr
     (refine⟨(by kernel_rfl:bA _=true),?_⟩;conv=>whnf)
     refine⟨[3,15,100007,100034,90032,90040,90041],_,hB,⟨rfl,rfl,rfl⟩,?_⟩
     conv=>whnf
     refine az ?_
     (conv=>arg 2;arg 1;reduce)
     conv=>whnf
     repeat (refine And.intro (by kernel_rfl:NQ.viewAt _ _ _ _=NQ.viewAt _ _ _ _) ?_;conv=>whnf)
     exact⟨[3,15,100007],_,hS,⟨by kernel_rfl,by kernel_rfl,by kernel_rfl⟩,rfl⟩
    |some z =>
    rw[hq]at hS hps;dsimp only at hps;have hz1:=cO (gp hq);have hSp:=lift (cx' :=gO) (jr {o with puts:=ps} z hz1 (by dsimp only;omega) (by dsimp only;omega) (by dsimp only;have:=hgl z.apex;omega)) rfl rfl
    (refine⟨(by kernel_rfl:bA _=true),?_⟩;conv=>whnf)
    refine⟨[3,15,100007,100034,90032,90040,90041],_,hB,⟨rfl,rfl,rfl⟩,?_⟩
    conv=>whnf
    refine az ?_
    (conv=>arg 2;arg 1;reduce)
    conv=>whnf
    repeat (refine And.intro (by kernel_rfl:NQ.viewAt _ _ _ _=NQ.viewAt _ _ _ _) ?_;conv=>whnf)
    refine⟨[3,15,100007],_,hS,⟨by kernel_rfl,by kernel_rfl,by kernel_rfl⟩,?_⟩
    conv=>whnf
    refine az ?_
    (conv=>arg 2;arg 1;reduce)
    conv=>whnf
    repeat (refine And.intro (by kernel_rfl:NQ.viewAt _ _ _ _=NQ.viewAt _ _ _ _) ?_;conv=>whnf)
    refine⟨[3,15,100007],_,hSp,⟨by kernel_rfl,by kernel_rfl,by kernel_rfl⟩,?_⟩
    conv=>whnf
    refine az ?_
    (conv=>arg 2;arg 1;reduce)
    conv=>whnf
    have hsl:=Aj z o.w.zones;have hga:=hgl z.apex;exact⟨(k+1,ps++du z o.w.zones++dH z (bH o.got z.apex)),⟨hlt,hps,by simp[dH];omega,λp hp=>by
     rw[List.append_assoc]at hp;rcases List.mem_append.1 hp with hp|hp
     . exact hpp p hp
     . refine⟨rR p hp,?_⟩;have e:p.zone=z:=by
        rcases List.mem_append.1 hp with h|h
        . unfold du at h;obtain⟨q,_,rfl⟩:=List.mem_map.1 h;rfl
        . unfold dH at h;obtain⟨q,_,rfl⟩:=List.mem_map.1 h;rfl
       rw[e];exact hz1.1⟩,by(show l.length-(k+1)<l.length-k;omega),ah.keep ⟨ae,ae,ae,ae,ae,ae,⟨ao (k:=k) (by omega),rfl⟩,trivial⟩⟩
 . obtain rfl:k=l.length:=by simp at h1;omega
   rw[List.drop_length]at hps;have hps:some ps=kG o x ad l []:=hps;rw[<- hps]at hr;have hT:=GY {o with puts:=ps} m (by dsimp only;omega) (by dsimp only;omega) hs (λa=>by have:=hgl a;dsimp only;omega) (λp hp=>by have:=(hpp p hp).2;omega) (λp hp=>(hpp p hp).1);replace hr:r=some (uV {o with puts:=ps} m):=hr;rw[<- hr]at hT
   conv at hT=>whnf
   exact eJ hT (ah.keep)
theorem FU(f:al->Bool):∀(zs:List al) (l:List Bs),l.Nodup->(zs.foldl (jR f) l).Nodup/\ ∀a∈zs.foldl (jR f) l,a∈l\/ ∃p∈zs,p.zone.apex=a
 |[],l,h=>⟨h,λa ha=> .inl ha⟩
 |p::t,l,h=>by
  have h2:(jR f l p).Nodup:=by
   unfold jR;split
   . rename_i hc;simp only[aF,Bool.not_eq_true']at hc;rw[List.nodup_append];refine⟨h,by simp,λa ha b hb e=>?_⟩;rcases List.mem_singleton.1 hb with rfl;rw[e]at ha;rw[kE.2 ha]at hc;cases hc.2
   . exact h
  obtain⟨g1,g2⟩:=FU f t (jR f l p) h2;refine⟨g1,λa ha=>?_⟩;rcases g2 a ha with h3|⟨q,hq,e⟩
  . unfold jR at h3;split at h3
    . rcases List.mem_append.1 h3 with h3|h3
      . exact .inl h3
      . rcases List.mem_singleton.1 h3 with rfl;exact .inr ⟨p,List.mem_cons_self .., rfl⟩
    . exact .inl h3
  . exact .inr ⟨q,bk _ hq,e⟩
theorem Dm(w:aL):∀(l:List al) (g:List (Bs×List Int)) (a:Bs),bg a (cM w g l)≠none->bg a g≠none\/ ∃q∈l,q.zone.apex=a
 |[],g,a,h=> .inl h
 |p::t,g,a,h=>by
  rcases Dm w t (jd w g p) a h with h|⟨q,hq,e⟩
  . unfold jd at h;split at h
    . rw[pF]at h;split at h
      . rename_i e;exact .inr ⟨p,List.mem_cons_self .., e.symm⟩
      . exact .inl h
    . exact .inl h
  . exact .inr ⟨q,bk _ hq,e⟩
def dR(o:aY)(host:Int)(l:List Bs):List al:=(l.filter λa=> !o.w.zones.any (dS host a)).map λa=>⟨host,(bS o.w.zones a).1⟩
theorem Dk(o:aY)(host:Int)(l:List Bs):(dR o host l).length<=l.length:=by
 unfold dR;rw[an];exact List.length_filter_le ..
theorem CK{zs:List al}(hv:∀p∈zs,aR p.zone=true)(a:Bs):ZSm (bS zs a).1:=by
 rcases gj zs a with ⟨p,hp,hc,_⟩|⟨hc,_⟩
 . rw[hc];exact cO (hv p hp)
 . rw[hc];exact⟨by simp[gJ],by simp[gJ]⟩
theorem Kv(o:aY)(host:Int)(l:List Bs)(h:∀a∈l,∃p∈o.w.zones,p.zone.apex=a):(dR o host l).map (λp=>p.zone.apex)=l.filter λa=> !o.w.zones.any (dS host a):=by
 unfold dR;rw[List.map_map]
 conv=>rhs;rw[<- List.map_id (l.filter _)]
 refine List.map_congr_left λa ha=>?_
 have ha:=(List.mem_filter.1 ha).1;show(bS o.w.zones a).1.apex=a
 rcases gj o.w.zones a with ⟨p,hp,hc,e⟩|⟨_,hc⟩
 . rw[hc];exact e
 . obtain⟨p,hp,e⟩:=h a ha;exact absurd e (hc p hp)
theorem PM(o:aY)(host:Int)(f:al->Bool)(k:Nat)(p:al)(hk:(dR o host (cP f o.w.zones))[k]? =some p):bg p.zone.apex (cM o.w [] ((dR o host (cP f o.w.zones)).take k))=none:=by
 cases hc:bg p.zone.apex (cM o.w [] ((dR o host (cP f o.w.zones)).take k))with
 |none=>rfl
 |some v =>
  exfalso
  obtain⟨g1,g2⟩:=FU f o.w.zones [] List.nodup_nil;have hap:=Kv o host (cP f o.w.zones) (λa ha=>by
   rcases g2 a ha with h|h
   . cases h
   . exact h)
  have hnd:((dR o host (cP f o.w.zones)).map (λp=>p.zone.apex)).Nodup:=by rw[hap];exact List.Pairwise.filter _ g1
  rcases Dm o.w _ [] p.zone.apex (by rw[hc];simp)with h|⟨q,hq,e⟩
  . exact h rfl
  . obtain⟨j,hj⟩:=ck hq;rw[List.getElem?_take]at hj;split at hj
    . rename_i hjk;have h1:((dR o host (cP f o.w.zones)).map (λp=>p.zone.apex))[j]? =some p.zone.apex:=by rw[aM,hj];simp[e]
      have h2:((dR o host (cP f o.w.zones)).map (λp=>p.zone.apex))[k]? =some p.zone.apex:=by rw[aM,hk];rfl
      have hlt:j<((dR o host (cP f o.w.zones)).map (λp=>p.zone.apex)).length:=(aq.1 h1).1;have:=(List.getElem?_inj hlt hnd).1 (h1.trans h2.symm);omega
    . cases hj
def Ci(o:aY)(x:bc)(host:Int)(m:List Int):Option aY:=tj (dE {o with puts:=dR o host (cP (λp=>m.contains p.host) o.w.zones)}) x ⟨[],addrAt o.w host,0⟩ m
def rS(o:aY)(x:bc)(host:Int):Option aY:=if (wfR o.zone x.name 1).2=true then Ci o x host (mW (wfR o.zone x.name 1).1.data host 0 o.w.hosts)else none
set_option maxHeartbeats 8000000 in
theorem Mi(o:aY)(x:bc)(host:Int)(hx:x.hosts=[host])(hw:bn o.w host=true)(hv:∀p∈o.w.zones,aR p.zone=true)(hn:o.w.zones.length<=20)(hnh:o.w.hosts.length<=1000)(hp0:o.puts=[])(hs0:o.stages.length<=50)(hg0:o.got=[])(hz:aR o.zone=true) :
 FnP gO pvW 66 [.ptr 100034 0,.agg ((aT x).map .d)] (bj o) (gR (rS o x host)):=by
 refine aS [100007] Nc Sr Qa Tryz.func66 (by kernel_rfl) rfl (ag rfl) (ag rfl) rfl ?_
 conv=>whnf
 obtain⟨r,hr⟩:∃r,r=rS o x host:=⟨_,rfl⟩
 rw[<- hr];have hget:(x.hosts.map cB)[(0:Int).toNat]? =some (cB host):=by rw[hx];rfl
 refine⟨Int.le_refl 0,cB host,hget,?_⟩
 conv=>whnf
 have hF:=lO o.zone x.name 1 (by have:=(cO hz).1;omega);have hds:=sn (s:=x.name) (k:=1) hz;unfold rS at hr;generalize wfR o.zone x.name 1=s at hF hr hds;obtain⟨s,b⟩:=s;dsimp only at hF hr hds
 (refine⟨(by kernel_rfl:bE _ _=true),?_⟩;conv=>whnf)
 (refine⟨_,_,hF,?_⟩;conv=>whnf)
 refine⟨_,ah.keep (sl:=[(0,.ptr 100034 0),(3,.ptr 3 0),(4,.d (.int .i64 host)),(5,.ptr 5 0),(6,.d (.bool b))]) (h:=(3,.box ((aT x).map .d))::(5,.box ((bN s).map .d))::bj o),?_⟩
 conv=>whnf
 clear hF;cases b with
 |false =>
  rw[if_neg (by decide)]at hr;subst hr
  conv=>whnf
  have hF:=lift (cx' :=gO) (jc 4 (by decide)) rfl rfl;exact⟨[3,5,100034,90032,90040,90041],_,hF,⟨rfl,rfl,rfl⟩,rfl⟩
 |true =>
 rw[if_pos rfl]at hr;have hds:=hds rfl
 conv=>whnf
 have hO:=lift (cx' :=gO) (DJ o s.data host (by omega) (by omega)) rfl rfl;generalize mW s.data host 0 o.w.hosts=m at hO hr;refine⟨[3,5],_,hO,⟨by kernel_rfl,by kernel_rfl,by kernel_rfl⟩,?_⟩
 conv=>whnf
 refine az ?_
 conv=>whnf
 refine⟨_,ah.trans (ah.name 7 100007 rfl rfl) (ah.keep (sl:=[(0,.ptr 100034 0),(3,.ptr 3 0),(4,.d (.int .i64 host)),(7,.ptr 100007 0)]) (h:=(3,.box ((aT x).map .d))::lK m++bj o)),?_⟩
 conv=>whnf
 have hX:=lift (cx' :=gO) (EM o m (by omega)) rfl rfl;have hXl:=mN (λp=>m.contains p.host) o.w.zones;have hgo:=PM o host (λp=>m.contains p.host);unfold Ci at hr;generalize cP (λp=>m.contains p.host) o.w.zones=l at hX hXl hr hgo;refine⟨[3],_,hX,⟨by kernel_rfl,by kernel_rfl,by kernel_rfl⟩,?_⟩
 conv=>whnf
 refine az ?_
 conv=>whnf
 refine⟨Nat×List al,λq=>⟨[(0,.ptr 100034 0),(3,.ptr 3 0),(4,.d (.int .i64 host)),(7,.ptr 100007 0),(45,.d (.slice 1 (l.map ba))),(46,.d (.int .i64 ((l.map ba).length:Int))),(47,.d (.int .i64 q.1))],(3,.box ((aT x).map .d))::lK m++bj {o with puts:=q.2}⟩,
  λq=>q.1<=l.length/\q.2++dR o host (l.drop q.1)=dR o host l/\q.2.length<=q.1,λq=>l.length-q.1,⟨(0,[]),⟨Nat.zero_le _,rfl,Nat.le_refl _⟩,ah.keep (by repeat' (first|exact trivial|refine⟨⟨rfl,rfl⟩,?_⟩)) ⟨⟨rfl,rfl⟩,⟨rfl,rfl⟩,⟨rfl,rfl⟩,⟨rfl,rfl⟩,⟨congrArg (λr:List al=>some (Blk.row 45 3 (r.map aA))) hp0,rfl⟩,⟨rfl,rfl⟩,trivial⟩⟩,?_⟩
 rintro⟨k,ps⟩ ⟨hk,hps,hpl⟩;dsimp only at hk hps hpl
 conv=>whnf
 refine af (λh1=>?_) (λh1=>?_) <;> (rw[h1];conv=>whnf)
 . have hlt:k<l.length:=by simp at h1;omega
   obtain⟨a,hak⟩:∃a,l[k]? =some a:=⟨_,ai hlt⟩
   have hd:dR o host (l.drop k)=(if (!o.w.zones.any (dS host a))=true then[⟨host,(bS o.w.zones a).1⟩]else[])++dR o host (l.drop (k+1)):=by
    rw[drop_cons hak];unfold dR;rw[List.filter_cons];split <;> rfl
   rw[hd, <- List.append_assoc]at hps;refine⟨aw k,ba a,aB hak,?_⟩
   conv=>whnf
   have hC:=bx (pv' :=pvW) (lift (cx' :=gO) (jL o.w host a (by omega)) rfl rfl);generalize o.w.zones.any (dS host a)=c at hC hps;refine⟨[3,100007,100034,90032,90040,90041],_,hC,⟨by kernel_rfl,by kernel_rfl,by kernel_rfl⟩,?_⟩
   conv=>whnf
   refine az ?_
   (conv=>arg 2;arg 1;reduce)
   conv=>whnf
   cases c with
   |true =>
    rw[if_neg (by decide),List.append_nil]at hps
    conv=>whnf
    exact⟨(k+1,ps),⟨hlt,hps,by dsimp only;omega⟩,by(show l.length-(k+1)<l.length-k;omega),ah.keep ⟨ae,ae,ae,ae,ae,ae,⟨ao (k:=k) (by omega),rfl⟩,trivial⟩⟩
   |false =>
    rw[if_pos (by decide)]at hps
    conv=>whnf
    have hY:=bx (pv' :=pvW) (lift (cx' :=gO) (gZ o.w a hv (by omega)) rfl rfl);have hcz:=CK hv a;generalize bS o.w.zones a=c at hY hcz hps;obtain⟨c,cb⟩:=c;dsimp only at hY hcz hps;refine⟨[3,100007,100034,90032,90040,90041],_,hY,⟨by kernel_rfl,by kernel_rfl,by kernel_rfl⟩,?_⟩
    conv=>whnf
    refine az ?_
    (conv=>arg 2;arg 1;reduce)
    conv=>whnf
    have hP:=lift (cx' :=gO) (oN {o with puts:=ps} host c hcz (by dsimp only;omega)) rfl rfl;refine⟨[3,10,100007],_,hP,⟨by kernel_rfl,by kernel_rfl,by kernel_rfl⟩,?_⟩
    conv=>whnf
    refine az ?_
    (conv=>arg 2;arg 1;reduce)
    conv=>whnf
    exact⟨(k+1,ps++[⟨host,c⟩]),⟨hlt,hps,by simp;omega⟩,by(show l.length-(k+1)<l.length-k;omega),ah.keep ⟨ae,ae,ae,ae,ae,ae,⟨ao (k:=k) (by omega),rfl⟩,trivial⟩⟩
 . obtain rfl:k=l.length:=by simp at h1;omega
   rw[List.drop_length]at hps;have hps:ps=dR o host l:=by rw[<- hps];exact(List.append_nil _).symm
   have hgl:=Dk o host l;subst hps;have hpz:∀p∈dR o host l,p.zone.sets.length<=100000:=λp hp=>by
    unfold dR at hp;obtain⟨a,_,rfl⟩:=List.mem_map.1 hp;have:=(CK hv a).1;dsimp only;omega
   have hga:∀a,bH o.got a=[]:=λa=>by rw[hg0];rfl
   have hFi:=lift (cx' :=gO) (xW {o with puts:=dR o host l} (by dsimp only;omega) (by dsimp only;omega) (by dsimp only;omega) (λk p _=>by
    have:=nH o.w ((dR o host l).take k) o.got p.zone.apex;rw[hga]at this;have h2:((dR o host l).take k).length<=(dR o host l).length:=by rw[List.length_take];omega
    simp only[List.length_nil]at this;show(bH (cM o.w o.got ((dR o host l).take k)) p.zone.apex).length<=100000
    omega) hpz (λk p hk _=>by
    show bg p.zone.apex (cM o.w o.got ((dR o host l).take k))=none
    rw[hg0];exact hgo k p hk)) rfl rfl
   rw[xU]at hFi;refine⟨[3,100007],_,hFi,⟨by kernel_rfl,by kernel_rfl,by kernel_rfl⟩,?_⟩
   conv=>whnf
   refine az ?_
   conv=>whnf
   refine⟨_,ah.keep (sl:=[(0,.ptr 100034 0),(3,.ptr 3 0),(4,.d (.int .i64 host)),(7,.ptr 100007 0)]) (h:=(3,.box ((aT x).map .d))::lK m++bj (dE {o with puts:=dR o host l})),?_⟩
   conv=>whnf
   unfold bn at hw;simp only[aF,decide_eq_true_eq]at hw;obtain⟨h,hh2⟩:∃h,o.w.hosts[host.toNat]? =some h:=⟨_,ai (by omega)⟩
   have e2:addrAt o.w host=h.addr:=by unfold addrAt;rw[hh2]
   rw[e2]at hr;refine⟨hw.1,eh h,aB hh2,?_⟩
   conv=>whnf
   have hT:=GX (dE {o with puts:=dR o host l}) x ⟨[],h.addr,0⟩ m hv hn rfl (by
    show(o.stages++_).length<=100
    rw[List.length_append];split <;> simp <;> omega) (λa=>by
    have:=nH o.w (dR o host l) o.got a;rw[hga]at this;simp only[List.length_nil]at this;show(bH (cM o.w o.got (dR o host l)) a).length<=20
    omega)
   rw[<- hr]at hT
   conv at hT=>whnf
   exact eJ hT (ah.keep)
end Go.Proofs.YtodofogcincleaaGreatDoor
