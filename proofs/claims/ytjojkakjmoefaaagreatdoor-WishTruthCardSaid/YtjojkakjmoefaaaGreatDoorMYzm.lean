/-
  Merged texts.
-/
import Derived.Test.YtjojkakjmoefaaaGreatDoorMYka
import Derived.Test.YtjojkakjmoefaaaGreatDoorQdfM
set_option linter.all false
set_option maxHeartbeats 8000000
set_option maxRecDepth 100000
namespace Go.Proofs.YtjojkakjmoefaaaGreatDoor
open NQ Go.RowKit
def Qf(w:World):(Instr.typeAssert Value.nilIface 20 91 true).run Tryz.prog w= .ok (.tuple #[.agg #[.int .i64 0],.bool false]) w:=by kernel_rfl
def Nj(e:Int)(w:World):(Instr.typeAssert (pvW e) 20 91 true).run Tryz.prog w= .ok (.tuple #[.agg #[.int .i64 e],.bool true]) w:=by kernel_rfl
def CY{w:World}{O L:Nat->Prop}{σ:Nat->Value}(e:Int)(b:Bool):aC w O L σ (.tuple [.agg [aj e],.d<|.bool b])<|.tuple #[.agg #[.int .i64 e],.bool b]:=by
 refine .tuple _ _ rfl λj c D=>?_
 rcases j with _|_|j
 .cases D;refine .agg _ _ rfl λj c D=>?_
  rcases j with _|j
  .cases D;exact .d _ _<|.int _ _
  .simp at D
 .cases D;exact .d _ _<|.bool _
 .simp at D
def Qn(p q:Value)(w:World)(V:jO cx w):CallsD Tryz.prog 32 #[p,q] .returning w λY X w' =>Y= .returned (.tuple #[])/\X = .returning/\we (w.heap.size<= ·) w w' :=by
 refine callsD_of_wpS Tryz.func32 rfl λU cs W=>?_
 apply wpS_seq;apply wpS_region;have D:FV (U::cs)=(.nilIface,U::cs):=by
  unfold FV recoverD;dsimp only;rw[W]
 refine Eb (l:=_) rfl rfl rfl rfl rfl rfl rfl (by show 5<12;omega) D (Qf w) (λa w h=>by obtain⟨X,h,_⟩:=h;cases h) ?_
 let E:Env:=⟨(w.heap.size<= ·),λ_=>False,w,12,λ_=>none,[]⟩
 have G:Sim cx E ⟨[(6,.tuple [.agg [aj 0],.d<|.bool false])],[]⟩ ((({tmps:= #[p,q]++Array.replicate (12-2) Go.undef,defers:=[]}:Act).put (some 5) .nilIface).put (some 6)<|.tuple #[.agg #[.int .i64 0],.bool false]) w:=by
  have h0:bS cx E ⟨[],[]⟩ (λ_=> .nilFunc) {tmps:= #[p,q]++Array.replicate (12-2) Go.undef,defers:=[]} w :=
   ⟨⟨rfl,rfl,rfl,Nat.le_refl _,λ_ _=>rfl⟩,λb H=>H,λb H=>H.elim,rfl,rfl,λt=> .undef _,⟨λs b G=>by simp[find]at G,λs s' b G=>by simp[live,find]at G⟩,V,λg cells hg=>⟨Nat.not_le.2 (V g cells hg).1,id⟩,λq0 B Z=>by cases Z⟩
  have h1:=(h0.put (d:=some 5) (v:= .undef) (u:= .nilIface) (λe I=>by cases I;show 5<12;omega)<|.undef _).put (d:=some 6) (u:= .tuple #[.agg #[.int .i64 0],.bool false]) (λe I=>by cases I;show 6<12;omega)<|CY 0 false;refine⟨_,h1.frame,h1.new,h1.apart,h1.defers,h1.nt,λt=>?_,h1.holds,h1.gR,h1.ee,h1.fix⟩;have:=h1.aY t;unfold St.get at this ⊢;by_cases e:6=t
  .subst e;exact this
  .rw[bp _ _ e];exact .undef _
 refine wO (cx:=cx) bf (nt:=12) (dr:=false) (E:=E) rfl _ (k:=λst=>vc cx 12 (λ_=>[]) (Gb<|(Tryz.f32).body.getD .skip) (λe s=>e= .normal) st) ?_ G ?_
 .conv=>whnf
 .intro st' a' w' hk J;refine wpS_of_wp (IS bf mixed (E:=E) rfl _ hk J λe st2 a2 w2 hq j=>?_);obtain rfl:=hq;obtain⟨τ,j⟩:=j;obtain⟨u,K,N⟩:=qW bf (fn:=Tryz.f32) j (v0:= .tuple []) rfl;have T:u= .tuple #[]:=by
   cases N with|tuple _ vs hl _ =>
    have:vs= #[]:=Array.eq_empty_of_size_eq_zero (by rw[hl];rfl);rw[this]
  subst T;exact⟨j.defers,.returning,by rw[<- W],_,K,rfl,rfl,j.frame⟩
def Qm(e:Int)(G H:Nat)(I J:Array Value)(t8 t9:TypeId)(w:World)(hG:jO cx w)(Y:∀g cells,cx.gl g=some cells->g≠G/\g≠H)(h8:w.heap[G]? =some (.cells I t8 (0,0)))(h9:w.heap[H]? =some (.cells J t9 (0,0)))(s8:I.size=1)(s9:J.size=1)(hf:G≠H) :
 CallsD Tryz.prog 32 #[.pointer<|some ⟨G,0,none⟩,.pointer<|some ⟨H,0,none⟩] (.panicking [{v:=pvW e,recovered:=false}]) w λen u' w' =>en= .returned (.tuple #[])/\u' = .panicking [{v:=pvW e,recovered:=true}]/\we (λb=>b=G\/b=H\/w.heap.size<=b) w w' /\
  (∃cur t,w'.heap[G]? =some (.cells cur t (0,0))/\cur.size=1/\cur.getD 0 Go.undef= .slice none 0 0)/\ ∃cur t,w'.heap[H]? =some (.cells cur t (0,0))/\cur.size=1/\cur.getD 0 Go.undef= .int .i64 e:=by
 refine callsD_of_wpS Tryz.func32 rfl λc₀ cs hu=>?_
 apply wpS_seq;apply wpS_region;have hd:FV (c₀::cs)=(pvW e,{c₀ with mode:= .panicking [{v:=pvW e,recovered:=true}]}::cs):=by
  unfold FV recoverD;dsimp only;rw[hu]
 refine Eb (l:=_) rfl rfl rfl rfl rfl rfl rfl (by show 5<12;omega) hd (Nj e w) (λa w h=>by obtain⟨u',h,_⟩:=h;cases h) ?_
 let E:Env:=⟨λb=>b=G\/b=H\/w.heap.size<=b,λ_=>False,w,12,λq=>if q=100008 then some G else if q=100009 then some H else none,[]⟩
 let σ:Nat->Value:=λs=>if s=100008 then .pointer (some ⟨G,0,none⟩)else .pointer<|some ⟨H,0,none⟩
 have l8:G<w.heap.size:=(bP.1 h8).1;have l9:H<w.heap.size:=(bP.1 h9).1;have V:∀s,live [(100008,Blk.box [.undef]),(100009,Blk.box [.undef])] s->s=100008\/s=100009:=λs N=>by
  rcases cP (bs:=[(100008,Blk.box [.undef])]) (h:=[(100009,Blk.box [.undef])]) |>.1 N with h|h
  .exact .inl<|cN.1 h
  .exact .inr<|cN.1 h
 have N:Sim cx E ⟨[(6,.tuple [.agg [aj e],.d<|.bool true]),(0,.ptr 100008 0),(1,.ptr 100009 0)],[(100008,.box [.undef]),(100009,.box [.undef])]⟩ ((({tmps:= #[.pointer<|some ⟨G,0,none⟩,.pointer<|some ⟨H,0,none⟩]++Array.replicate (12-2) Go.undef,defers:=[]}:Act).put (some 5)<|pvW e).put (some 6)<|.tuple #[.agg #[.int .i64 e],.bool true]) w:=by
  have h0:bS cx E ⟨[(0,.ptr 100008 0),(1,.ptr 100009 0)],[(100008,.box [.undef]),(100009,.box [.undef])]⟩ σ {tmps:= #[.pointer<|some ⟨G,0,none⟩,.pointer<|some ⟨H,0,none⟩]++Array.replicate (12-2) Go.undef,defers:=[]} w:=by
   refine⟨⟨rfl,rfl,rfl,Nat.le_refl _,λ_ _=>rfl⟩,λb hb=> .inr<|.inr hb,λb hb=>hb.elim,rfl,rfl,λt=>?_,⟨λs b N=>?_,λs s' b N W K e2=>?_⟩,hG,λg cells hg=>⟨λT=>?_,id⟩,λq0 B U=>?_⟩
   .unfold St.get;by_cases X:0=t
    .subst X;exact .ptr 100008 0 G (by unfold live;rfl) rfl
    .rw[bp _ _ X];by_cases K:1=t
     .subst K;exact .ptr 100009 0 H (by unfold live;rfl) rfl
     .rw[bp _ _ K];exact .undef _
   .rcases V s (aH.2 ⟨b,N⟩)with rfl|rfl
    .cases N;exact⟨G,I,t8,rfl,.inl rfl,h8,s8,λj c Z=>by
      rcases j with _|j
      .cases Z;exact⟨.inr rfl,.undef _⟩
      .simp at Z⟩
    .cases N;exact⟨H,J,t9,rfl,.inr<|.inl rfl,h9,s9,λj c Z=>by
      rcases j with _|j
      .cases Z;exact⟨.inr rfl,.undef _⟩
      .simp at Z⟩
   .rcases V s N with rfl|rfl<;>rcases V s' W with rfl|rfl
    .rfl
    .cases K;cases e2;exact absurd rfl hf
    .cases K;cases e2;exact absurd rfl hf
    .rfl
   .rcases T with T|T|T
    .exact(Y g cells hg).1 T
    .exact(Y g cells hg).2 T
    .have:=(hG g cells hg).1;have T:w.heap.size<=g:=T;omega
   .have U:(if q0=100008 then some G else if q0=100009 then some H else none)=some B:=U;split at U
    .rename_i e;subst e;cases U;exact⟨⟨bA rfl,bA rfl⟩,λ_=>rfl⟩
    .split at U
     .rename_i e;subst e;cases U;exact⟨⟨bA rfl,bA rfl⟩,λ_=>rfl⟩
     .cases U
  have h1:=(h0.put (d:=some 5) (v:= .undef) (u:=pvW e) (λe he=>by cases he;show 5<12;omega)<|.undef _).put (d:=some 6) (u:= .tuple #[.agg #[.int .i64 e],.bool true]) (λe he=>by cases he;show 6<12;omega)<|CY e true;refine⟨_,h1.frame,h1.new,h1.apart,h1.defers,h1.nt,λt=>?_,h1.holds,h1.gR,h1.ee,h1.fix⟩;have:=h1.aY t;unfold St.get at this ⊢;by_cases e6:6=t
  .subst e6;exact this
  .rw[bp _ _ e6];by_cases X:0=t
   .subst X;exact this
   .rw[bp _ _ X];by_cases K:1=t
    .subst K;exact this
    .rw[bp _ _ K];exact .undef _
 refine wO (cx:=cx) bf (nt:=12) (dr:=false) (E:=E) rfl _ (k:=λst=>vc cx 12 (fun|2=>[66666]|_=>[]) (Gb<|(Tryz.f32).body.getD .skip) (λK s=>K= .normal/\aI cx s ⟨[],[(100008,.box [.nil 1]),(100009,.box [aj e])]⟩) st) ?_ N ?_
 .conv=>whnf
  (refine cn<|M ?_)
  repeat' (first|(refine db<|M ?_)|exact⟨rfl,aI.keep⟩|(refine And.intro ?_ ?_<;>(conv=>whnf)))
 .intro st' a' w' hk W;refine wpS_of_wp (IS bf mixed (E:=E) rfl _ hk W λe st2 a2 w2 hq D=>?_);obtain⟨rfl,hq⟩:=hq;obtain⟨τ,D⟩:=hq E a2 w2 D;obtain⟨u,hs,ht⟩:=qW bf (fn:=Tryz.f32) D (v0:= .tuple []) rfl;have hv:u= .tuple #[]:=by
   cases ht with|tuple _ vs hl _ =>
    have:vs= #[]:=Array.eq_empty_of_size_eq_zero (by rw[hl];rfl);rw[this]
  subst hv;have x8:=(D.fix 100008 G rfl).2 (by unfold live;rfl);have x9:=(D.fix 100009 H rfl).2 (by unfold live;rfl);obtain⟨b8,c8,u8,p8,_,q8,r8,z8⟩:=D.holds.blk 100008 _ rfl;obtain⟨b9,c9,u9,p9,_,q9,r9,z9⟩:=D.holds.blk 100009 _ rfl;rw[x8]at p8;cases p8;rw[x9]at p9;cases p9;refine⟨D.defers,.panicking [{v:=pvW e,recovered:=true}],rfl,_,hs,rfl,rfl,D.frame,⟨c8,u8,q8,r8,?_⟩,c9,u9,q9,r9,?_⟩
  .have:=(z8 0 _ rfl).2;generalize c8.getD 0 Go.undef=v at this;cases this;rfl
  .exact(z9 0 _ rfl).2.int
def Px(w:aQ)(x:bG)(since aT:Int):bB:=⟨w,since,aT,(cq w.ah x.ai).1,(wfR (cq w.ah x.ai).1 x.ai 2).1.aJ,[],[],[]⟩
def TR(x:bG):Int:=match x.ar with|n::_=>n|[]=>0
def xI(o:bB)(x:bG):Option bB:=if x.kind=1 then sU o x else if x.kind=2 then sS o x else if x.kind=3 then wW o x (TR x)else if x.kind=4 then uz o x else some o
def py(w:aQ)(x:bG)(since aT:Int):Option bB:=if (wfR (cq w.ah x.ai).1 x.ai 2).2=true then xI (Px w x since aT) x else none
noncomputable def jt:Cx:={cx with chg:=ja [(33,10),(34,11),(35,9),(36,9),(37,9),(38,9)]}
def Sr:bC jt:=bf
def FN:jt.P.follows .mixedOrders=true:=mixed
def WV:Nat->List Nat:=fun|5=>[33333,55555]|6=>[33333,55555]|7=>[55555]|9=>[33333]|11=>[33333]|13=>[33333]|15=>[33333]|16=>[90041]|_=>[]
noncomputable abbrev se:Code:=(Tryz.f15).body.getD .skip
def Cg(a b:AV):List<|Nat×Blk:=[(100008,.box [a]),(100009,.box [b])]
def QpS(r:Option bB):St->Prop:=λst=>r=none/\st.get 8= .ptr 100008 0/\st.get 9= .ptr 100009 0/\(∃c,find st.heap 100008=some (.box [c]))/\ ∃c,find st.heap 100009=some (.box [c])
def QrS(r:Option bB):Ex->St->Prop:=λe st=>match e with
 | .ret=> ∃o,r=some o/\aq jt [100034] st ⟨[(8,.ptr 100008 0),(9,.ptr 100009 0)],Cg (.d<|.slice 1<|o.bu.map dK)<|aj 0⟩
 |_=>False
def stS(w:aQ)(x:bG)(since aT:Int):St:=⟨[(2,aj since),(3,aj aT),(4,.ptr 4 0),(5,.ptr 5 0),(8,.ptr 100008 0),(9,.ptr 100009 0)],(4,.box<|(bF w).map .d)::(5,.box<|(bw x).map .d)::Cg (.nil 1) (aj 0)⟩
def Bz{w:aQ}:∀(l:List Int) {j:List Bs},nw w j l=true-> ∀n∈l,cr w n=true
 |[],_,_,n,D=>by cases D
 |m::t,j,h,n,D=>by
  unfold nw at h;simp only[aK]at h;rcases List.mem_cons.1 D with rfl|D
  .exact h.1.1
  .exact Bz t h.2 n D
variable {w:aQ}
def nA{l:List Int}(h:iP w l=true):l.length<=8/\l≠[]/\ ∀n∈l,cr w n=true:=by
 unfold iP at h;simp only[aK,Bool.not_eq_true',Bool.or_eq_false_iff,decide_eq_false_iff_not]at h;refine⟨by omega,λe=>?_,Bz l h.2⟩;subst e;simp at h
attribute [local irreducible] NQ.FnP
def On(w:aQ)(x:bG)(since aT:Int)(W:∀p∈w.ah,aW p.ai=true)(hn:w.ah.length<=20)(hi:w.ar.length<=1000)(hc:(cq w.ah x.ai).2=true)(H:lr w x=true) :
 vcp jt [100034] pvW (Tryz.f15).ntmps WV (QpS<|py w x since aT) ((iH 4 se).getD .skip) (QrS<|py w x since aT) (stS w x since aT):=by
 conv=>whnf
 have V:=lift (cx' :=jt) (kC w x.ai W<|by omega) rfl rfl;have hr:∃r,r=py w x since aT:=⟨_,rfl⟩
 obtain⟨r,G⟩:=hr;rw[<- G];unfold py Px at G;have hx:(cq w.ah x.ai).2=true->aW (cq w.ah x.ai).1=true:=λh=>by
  rcases lj w.ah x.ai with ⟨p,hp,e,_⟩|⟨e,_⟩
  .rw[e];exact W p hp
  .rw[e]at h;cases h
 have J:=hx hc;generalize cq w.ah x.ai=c at V G J hc;obtain⟨c,c2⟩:=c;dsimp only at V G J hc;subst hc;refine⟨_,aq.trans (aq.keep (sl:=[(4,.ptr 4 0),(5,.ptr 5 0),(8,.ptr 100008 0),(9,.ptr 100009 0),(10,.ptr 34 0)]) (h:=(34,.box<|(bF w).map .d++[aj since,aj aT,.d<|.str [],.nil 5,aj 0,.omap 32,.nil 3,.nil 1])::(32,.smap [])::(4,.box<|(bF w).map .d)::(5,.box<|(bw x).map .d)::Cg (.nil 1) (aj 0)))
  (aq.trans (aq.name 34 100034 rfl rfl) (aq.trans (aq.name 32 90032 rfl rfl) (aq.trans (aq.jy 100034 13 90040 3 _ 72 3 rfl rfl rfl<|by decide) (aq.trans (aq.jy 100034 14 90041 1 _ 63 1 rfl rfl rfl<|by decide)
  (aq.keep (sl:=[(5,.ptr 5 0),(8,.ptr 100008 0),(9,.ptr 100009 0),(10,.ptr 100034 0)]) (h:=(5,.box<|(bw x).map .d)::(100008,.box [.nil 1])::(100009,.box [aj 0])::(100034,.box<|(bF w).map .d++[aj since,aj aT,.d<|.str [],.nil 5,aj 0,.omap 90032,.own 90040,.own 90041])::(90032,.smap [])::(90040,.row 72 3 [])::(90041,.row 63 1 [])::[])))))),?_⟩
 conv=>whnf
 (refine cn<|M ?_)
 have V:=bZ (pv' :=pvW) V;refine⟨[5,100008,100009,100034,90032,90040,90041],_,V,⟨rfl,rfl,rfl⟩,M ?_⟩
 refine aN<|M ?_
 repeat (refine db<|M ?_)
 refine⟨_,aq.keep (sl:=[(5,.ptr 5 0),(8,.ptr 100008 0),(9,.ptr 100009 0),(10,.ptr 100034 0)]) (h:=(5,.box<|(bw x).map .d)::(100008,.box [.nil 1])::(100009,.box [aj 0])::(100034,.box<|(bF w).map .d++[aj since,aj aT,.d<|.str c.ag,.d<|.slice 5<|c.af.map an,aj 0,.omap 90032,.own 90040,.own 90041])::(90032,.smap [])::(90040,.row 72 3 [])::(90041,.row 63 1 [])::[]),M ?_⟩
 have I:=xO c x.ai 2 (by have:=(dP J).1;omega);generalize wfR c x.ai 2=s2 at I G;obtain⟨s2,b2⟩:=s2;dsimp only at I G;cases b2 with
 |false =>
  rw[if_neg<|by decide]at I G;have I:=lift (cx' :=jt) I rfl rfl
  (refine cn<|M ?_)
  refine⟨[5,100008,100009,100034,90032,90040,90041],_,I,⟨rfl,rfl,rfl⟩,?_⟩;exact⟨G,rfl,rfl,⟨_,rfl⟩,⟨_,rfl⟩⟩
 |true =>
 rw[if_pos rfl]at I G;have I:=lift (cx' :=jt) I rfl rfl
 (refine cn<|M ?_)
 refine⟨[5,100008,100009,100034,90032,90040,90041],_,I,⟨rfl,rfl,rfl⟩,M ?_⟩
 refine aN<|M ?_
 repeat (refine db<|M ?_)
 generalize T:bB.mk w since aT c s2.aJ [] [] []=o at G
 refine⟨_,aq.keep (sl:=[(5,.ptr 5 0),(8,.ptr 100008 0),(9,.ptr 100009 0),(10,.ptr 100034 0)]) (h:=(5,.box<|(bw x).map .d)::(100008,.box [.nil 1])::(100009,.box [aj 0])::bK o) (by repeat' (first|exact trivial|refine⟨⟨rfl,rfl⟩,?_⟩))<|by subst T;exact(by repeat' (first|exact trivial|refine⟨⟨rfl,rfl⟩,?_⟩)),?_⟩;conv=>whnf
 have ow:o.w=w:=by rw[<- T]
 have oz:o.ai=c:=by rw[<- T]
 have op:o.aF=[]:=by rw[<- T]
 have os:o.bu=[]:=by rw[<- T]
 have og:o.got=[]:=by rw[<- T]
 clear T;rw[<- ow]at W hn hi H;rw[<- oz]at J;clear V I;unfold lr at H;by_cases K:x.kind=1
 .rw[show(x.kind==1)=true by simp[K]];rw[if_pos K,aK]at H;obtain⟨hl,N,hh⟩:=nA H.2;have D:r=sU o x:=by rw[G];unfold xI;rw[if_pos K]
  have j:=lift (cx' :=jt) (Xt o x W (by omega) J op (by rw[os];simp) og (by omega) N hh) rfl rfl;rw[<- D]at j;conv=>whnf
  cases r with
  |none =>
   refine⟨[5,100008,100009],_,j,⟨rfl,rfl,rfl⟩,?_⟩;exact⟨rfl,rfl,rfl,⟨_,rfl⟩,⟨_,rfl⟩⟩
  |some U =>
   refine⟨[5,100008,100009],_,j,⟨rfl,rfl,rfl⟩,M ?_⟩
   refine aN<|M ?_
   exact⟨U,rfl,aq.keep⟩
 rw[show(x.kind==1)=false by simp[K]];rw[if_neg K]at H;conv=>whnf
 by_cases X:x.kind=2
 .rw[show(x.kind==2)=true by simp[X]];have D:r=sS o x:=by rw[G];unfold xI;rw[if_neg K,if_pos X]
  have j:=lift (cx' :=jt) (Xj o x W (by omega) J op (by rw[os];simp) og) rfl rfl;rw[<- D]at j;conv=>whnf
  cases r with
  |none =>
   refine⟨[5,100008,100009],_,j,⟨rfl,rfl,rfl⟩,?_⟩;exact⟨rfl,rfl,rfl,⟨_,rfl⟩,⟨_,rfl⟩⟩
  |some U =>
   refine⟨[5,100008,100009],_,j,⟨rfl,rfl,rfl⟩,M ?_⟩
   refine aN<|M ?_
   exact⟨U,rfl,aq.keep⟩
 rw[show(x.kind==2)=false by simp[X]];rw[if_neg X]at H;conv=>whnf
 by_cases Y:x.kind=3
 .rw[show(x.kind==3)=true by simp[Y]];rw[if_pos Y,aK]at H;obtain⟨host,Z,ho⟩:∃host,x.ar=[host]/\cr o.w host=true:=by
   have h1:=H.2;unfold xT at h1;split at h1
   .rename_i n e;exact⟨n,e,h1⟩
   .cases h1
  have D:r=wW o x host:=by rw[G];unfold xI;rw[if_neg K,if_neg X,if_pos Y];unfold TR;rw[Z]
  have j:=lift (cx' :=jt) (VE o x host Z ho W hn hi op (by rw[os];simp) og J) rfl rfl;rw[<- D]at j;conv=>whnf
  cases r with
  |none =>
   refine⟨[5,100008,100009],_,j,⟨rfl,rfl,rfl⟩,?_⟩;exact⟨rfl,rfl,rfl,⟨_,rfl⟩,⟨_,rfl⟩⟩
  |some U =>
   refine⟨[5,100008,100009],_,j,⟨rfl,rfl,rfl⟩,M ?_⟩
   refine aN<|M ?_
   exact⟨U,rfl,aq.keep⟩
 rw[show(x.kind==3)=false by simp[Y]];rw[if_neg Y]at H;conv=>whnf
 by_cases k4:x.kind=4
 .rw[show(x.kind==4)=true by simp[k4]];rw[if_pos k4,aK,aK]at H;obtain⟨hl,N,hh⟩:=nA H.1.2;have D:r=uz o x:=by rw[G];unfold xI;rw[if_neg K,if_neg X,if_neg Y,if_pos k4]
  have j:=lift (cx' :=jt) (UZ o x (by omega) (by omega) N hh op (by rw[os];simp) og J) rfl rfl;rw[<- D]at j;conv=>whnf
  cases r with
  |none =>
   refine⟨[5,100008,100009],_,j,⟨rfl,rfl,rfl⟩,?_⟩;exact⟨rfl,rfl,rfl,⟨_,rfl⟩,⟨_,rfl⟩⟩
  |some U =>
   refine⟨[5,100008,100009],_,j,⟨rfl,rfl,rfl⟩,M ?_⟩
   refine aN<|M ?_
   exact⟨U,rfl,aq.keep⟩
 rw[if_neg k4]at H;cases H
def WH(z:ax)(s:Bs)(k:Int):mX z s k=match z.af.findIdx? (is ⟨s,k⟩)with|some i=>z.af[i]? |none=>none:=by
 unfold mX;rw[<- nu];rfl
def bT(l:List al)(p:al):List al:=(l.filter λq=>(q.host != p.host)||(q.ai.ag != p.ai.ag))++(if p.ai.af=[]then[]else[p])
def lD(w:aQ)(s:List al):aQ:=⟨w.ar,s.foldl bT w.ah,w.anchor,w.hints⟩
def Qc(l:List al)(p:al):(bT l p).length<=l.length+1:=by
 unfold bT;rw[List.length_append];have:=List.length_filter_le (λq:al=>(q.host != p.host)||(q.ai.ag != p.ai.ag)) l;split<;>simp<;>omega
def iE:∀(s:List al) (l:List al),(s.foldl bT l).length<=l.length+s.length
 |[],l=>by simp
 |p::t,l=>by
  have h1:=iE t<|bT l p;have j:=Qc l p;simp only[List.foldl_cons,List.length_cons];omega
def SJ(w:aQ)(s:List al)(hn:w.ah.length+s.length<=100000):NQ.Fn cx 20 [.agg<|bF w,.agg<|dK s] (.agg<|(bF<|lD w s).map .d) []:=by
 refine gr (fun|13=>[57]|_=>[]) bf mixed Tryz.func20 ?_;conv=>whnf
 refine⟨Nat×aQ,λq=>⟨[(2,.ptr 2 0),(3,.ptr 3 0),(4,.ptr 4 0),(5,aj q.1)],[(2,.box<|(bF q.2).map .d),(3,.box [.d<|.slice 3<|s.map aP]),(4,.box [.nil 3,.nil 3,.d<|.str [],aj 0,aj 0,.nil 3,.nil 1])]⟩,λq=>q.1<=s.length/\q.2=lD w (s.take q.1),λq=>s.length-q.1,
  ⟨(0,w),⟨Nat.zero_le _,rfl⟩,aI.keep⟩,?_⟩
 rintro⟨k,D⟩ ⟨hk,I⟩;dsimp only at hk I;have hz:D.ah.length<=w.ah.length+k:=by
  have:=iE (s.take k) w.ah;rw[List.length_take]at this;rw[I];show((s.take k).foldl bT w.ah).length<=_
  omega
 conv=>whnf
 refine aD ?_ ?_<;>intro h1
 .have K:k<s.length:=by simp at h1;omega
  obtain⟨p,hp⟩:∃p,s[k]? =some p:=⟨_,ao K⟩
  refine⟨aB k,aP p,aL hp,M ?_⟩
  refine⟨Nat,λj=>⟨[(2,.ptr 2 0),(3,.ptr 3 0),(4,.ptr 4 0),(5,aj k),(6,.ptr 6 0),(7,.own 57),(8,aj j)],[(57,.row 72 3<|((D.ah.take j).filter λq=>(q.host != p.host)||(q.ai.ag != p.ai.ag)).map aP),(2,.box<|(bF D).map .d),(3,.box [.d<|.slice 3<|s.map aP]),(4,.box [.nil 3,.nil 3,.d<|.str [],aj 0,aj 0,.nil 3,.nil 1]),(6,.box<|(aP p).map .d)]⟩,λj=>j<=D.ah.length,λj=>D.ah.length-j,
   ⟨0,Nat.zero_le _,(aI.kz 7 57 3 72 3 rfl rfl<|by decide).trans<|aI.keep⟩,?_⟩
  intro j hj;conv=>whnf
  refine aD ?_ ?_<;>intro Z
  .have J:j<D.ah.length:=by simp at Z;omega
   obtain⟨q,Y⟩:∃q,D.ah[j]? =some q:=⟨_,ao J⟩
   have U:=List.length_filter_le (λq:al=>(q.host != p.host)||(q.ai.ag != p.ai.ag))<|D.ah.take j;rw[List.length_take]at U;have G:(D.ah.take<|j+1).filter (λq=>(q.host != p.host)||(q.ai.ag != p.ai.ag))=(D.ah.take j).filter (λq=>(q.host != p.host)||(q.ai.ag != p.ai.ag))++if ((q.host != p.host)||(q.ai.ag != p.ai.ag))=true then[q]else[]:=by
    rw[cj Y,List.filter_append,List.filter_cons,List.filter_nil]
   (refine bJ<|M ?_)
   refine⟨aB j,aP q,aL Y,M ?_⟩
   repeat' (first
    |(refine⟨aB j,aP q,aL Y,M ?_⟩)
    |(refine aD ?_ ?_<;>intro h)|fail)
   iterate 2
    .have X:((q.host != p.host)||(q.ai.ag != p.ai.ag))=true:=by simp_all
     rw[if_pos X]at G;have T:((D.ah.take<|j+1).filter λq=>(q.host != p.host)||(q.ai.ag != p.ai.ag)).map aP=((D.ah.take j).filter λq=>(q.host != p.host)||(q.ai.ag != p.ai.ag)).map aP++[aP q]:=by rw[G,List.map_append];rfl
     refine⟨by simp;omega,by simp;omega,M ?_⟩
     refine⟨j+1,J,by(show D.ah.length-(j+1)<D.ah.length-j;omega),aI.keep ⟨ae,ae,ae,ae,ae,ae,⟨bj (k:=j)<|by omega,rfl⟩,trivial⟩ ⟨⟨by rw[T];rfl,rfl⟩,(by repeat' (first|exact trivial|refine⟨ae,?_⟩))⟩⟩
   .have X:¬((q.host != p.host)||(q.ai.ag != p.ai.ag))=true:=by simp_all
    rw[if_neg X,List.append_nil]at G;refine⟨j+1,J,by(show D.ah.length-(j+1)<D.ah.length-j;omega),aI.keep ⟨ae,ae,ae,ae,ae,ae,⟨bj (k:=j)<|by omega,rfl⟩,trivial⟩ ⟨⟨by rw[G];rfl,rfl⟩,(by repeat' (first|exact trivial|refine⟨ae,?_⟩))⟩⟩
  .obtain rfl:j=D.ah.length:=by simp at Z;omega
   have U:=List.length_filter_le (λq:al=>(q.host != p.host)||(q.ai.ag != p.ai.ag)) D.ah;have H:lD w (s.take<|k+1)=⟨D.ar,bT D.ah p,D.anchor,D.hints⟩:=by
    rw[I];unfold lD;rw[cj hp,List.foldl_append];rfl
   refine aD ?_ ?_<;>intro V
   .have N:p.ai.af≠[]:=by intro e;simp[e]at V
    have W:(bT D.ah p).map aP=((D.ah.take D.ah.length).filter λq=>(q.host != p.host)||(q.ai.ag != p.ai.ag)).map aP++[aP p]:=by
     rw[List.take_length];unfold bT;rw[if_neg N,List.map_append];rfl
    refine⟨by simp;omega,by simp;omega,M ?_⟩
    refine⟨(k+1,_),⟨K,H.symm⟩,by(show s.length-(k+1)<s.length-k;omega),aI.keep ⟨ae,ae,ae,⟨bj (k:=k)<|by omega,rfl⟩,trivial⟩ ⟨⟨?_,rfl⟩,(by repeat' (first|exact trivial|refine⟨ae,?_⟩))⟩⟩;show _=some (Blk.box [.d<|.slice 3<|D.ar.map gG,.d<|.slice 3<|(bT D.ah p).map aP,.d<|.str D.anchor.name,aj D.anchor.type,aj D.anchor.aJ,.d<|.slice 3<|D.anchor.data.map aS,.d<|.slice 1<|D.hints.map eN])
    rw[W];rfl
   .have N:p.ai.af=[]:=by
     cases e:p.ai.af with
     |nil=>rfl
     |cons a t=>rw[e]at V;simp at V
    have W:(bT D.ah p).map aP=((D.ah.take D.ah.length).filter λq=>(q.host != p.host)||(q.ai.ag != p.ai.ag)).map aP:=by
     rw[List.take_length];unfold bT;rw[if_pos N,List.append_nil]
    refine⟨(k+1,_),⟨K,H.symm⟩,by(show s.length-(k+1)<s.length-k;omega),aI.keep ⟨ae,ae,ae,⟨bj (k:=k)<|by omega,rfl⟩,trivial⟩ ⟨⟨?_,rfl⟩,(by repeat' (first|exact trivial|refine⟨ae,?_⟩))⟩⟩;show _=some (Blk.box [.d<|.slice 3<|D.ar.map gG,.d<|.slice 3<|(bT D.ah p).map aP,.d<|.str D.anchor.name,aj D.anchor.type,aj D.anchor.aJ,.d<|.slice 3<|D.anchor.data.map aS,.d<|.slice 1<|D.hints.map eN])
    rw[W];rfl
 .obtain rfl:k=s.length:=by simp at h1;omega
  rw[List.take_length]at I;subst I;exact ak rfl rfl
def rK(z:ax)(s:Bs)(k l:Int)(d:List Datum):(bN z s k l d).ag=z.ag:=rfl
variable {since aT:Int}{z:ax}
def mN{y:ax}(h:cY since aT y=some z):(wfR y y.ag 4).2=true/\(sD (ph (wfR y y.ag 4).1).n).2=0/\(wfR (ej y) (ej y).ag 7).2=true/\(dJ (wfR (ej y) (ej y).ag 7).1).2=0/\aW (ej y)=true/\(eW<|ej y).2=0 /\
 (iW (eW<|ej y).1 (dJ (wfR (ej y) (ej y).ag 7).1).1 since aT).2=0/\aW z=true/\z=(iW (eW<|ej y).1 (dJ (wfR (ej y) (ej y).ag 7).1).1 since aT).1:=by
 unfold cY at h;split at h
 case isFalse=>cases h
 rename_i h1;split at h
 .cases h
 rename_i G;unfold nP at h;split at h
 case isFalse=>cases h
 rename_i I;split at h
 .cases h
 rename_i j;split at h
 .cases h
 rename_i H;split at h
 .cases h
 rename_i D;cases h;simp only[Bool.or_eq_true,bne_iff_ne,ne_eq,Bool.not_eq_true',not_or,Decidable.not_not,Bool.not_eq_false]at G j H D;exact⟨h1,G,I,j.1,j.2,H,D.1,D.2,rfl⟩
def ml{y:ax}(h:cY since aT y=some z):z.ag=y.ag:=by
 obtain⟨_,_,_,_,K,j,D,_,rfl⟩:=mN h;have J:(eW<|ej y).1.ag=y.ag:=by
  unfold eW at j ⊢;split at j
  .cases j
  .rename_i H;rw[if_neg H];split at j
   .rename_i G;exact absurd j (by simpa using G)
   .rename_i G;rw[if_neg G];split at j
    .cases j
    .rename_i I;rw[if_neg I];rfl
 unfold iW at D ⊢;split at D
 .cases D
 .rename_i H;rw[if_neg H];split at D
  .cases D
  .rename_i G;rw[if_neg G];split at D
   .cases D
   .rename_i I;rw[if_neg I];exact J
structure km(P:al->Prop)(n:Nat)(o:bB):Prop where
 num:o.bu.length<=n
 st:∀s∈o.bu,s≠[]/\s.length<=2000/\ ∀p∈s,P p
variable {P:al->Prop}{o:bB}
def km.fin{n:Nat}(h:km P n o)(G:o.aF.length<=2000)(hp:∀p∈o.aF,P p){o' :bB}(e:o'.bu=o.bu++(if o.aF=[]then[]else[o.aF])):km P (n+1) o' :=by
 refine⟨?_,λs j=>?_⟩
 .rw[e,List.length_append];have:=h.num;split<;>simp<;>omega
 .rw[e]at j;rcases List.mem_append.1 j with j|j
  .exact h.st s j
  .split at j
   .cases j
   .rename_i D;rw[List.mem_singleton.1 j];exact⟨D,G,hp⟩
def km.more{n m:Nat}(h:km P n o)(j:n<=m):km P m o:=⟨Nat.le_trans h.num j,h.st⟩
def CR(w:aQ)(m:Nat)(g:List<|Bs×List Int):Prop:= ∀a,(bz g a).length<=m/\ ∀n∈bz g a,cr w n=true
def AE(a b:Bs)(l:List Int):∀g:List (Bs×List Int),bz (cy b l g) a=if a=b then l else bz g a
 |[]=>by
  unfold bz cy bH;by_cases h:a=b
  .rw[if_pos h,if_pos h];rfl
  .rw[if_neg h,if_neg h];rfl
 |(k,v)::t=>by
  have D:=AE a b l t;unfold cy;by_cases j:b=k
  .subst j;rw[if_pos rfl];unfold bz bH;by_cases h:a=b
   .rw[if_pos h,if_pos h];rfl
   .rw[if_neg h,if_neg h,if_neg h]
  .rw[if_neg j];unfold bz at D ⊢;unfold bH;by_cases h:a=k
   .subst h;rw[if_pos rfl,if_neg λe=>j e.symm,if_pos rfl]
   .rw[if_neg h,if_neg h];exact D
def Pf{w:aQ}:∀(l:List al) {g:List<|Bs×List Int} {m:Nat},CR w m g->(∀p∈l,cr w p.host=true)->CR w (m+l.length) (dA w g l)
 |[],g,m,h,_=>h
 |p::t,g,m,h,hp=>by
  show CR w (m+(t.length+1))<|dA w (jT w g p) t
  rw[show m+(t.length+1)=(m+1)+t.length by omega];refine Pf t (λa=>?_) λq D=>hp q<|aZ _ D
  unfold jT;split
  .rw[AE];split
   .rename_i e;have h1:=h p.ai.ag;refine⟨by simp;omega,λn j=>?_⟩;rcases List.mem_append.1 j with j|j
    .exact h1.2 n j
    .rw[List.mem_singleton.1 j];exact hp p (List.mem_cons_self ..)
   .exact⟨by have:=(h a).1;omega,(h a).2⟩
  .exact⟨by have:=(h a).1;omega,(h a).2⟩
def ZP(w:aQ):CR w 0 []:=λa=>⟨Nat.le_refl _,λn j=>by cases j⟩
abbrev TP:al->Prop:=λ_=>True
def EK{m:Nat}(j:(bz o.got z.ag).length<=m):(cg z o.w.ah++cU z (bz o.got z.ag)).length<=o.w.ah.length+m:=by
 have h1:=List.length_filter_le (λp:al=>p.ai.ag==z.ag) o.w.ah;unfold cg cU;rw[List.length_append,au,au];omega
def AY(h:o.bu=[]):km P 0 o:=⟨by rw[h];exact Nat.le_refl _,λs j=>by rw[h]at j;cases j⟩
def sV{n m:Nat}(h:km TP n o)(j:o.aF=[])(G:(bz o.got z.ag).length<=m)(H:o.w.ah.length+m<=2000):km TP (n+1)<|cR<|ba o z:=by
 have l1:=EK G;have D:(ba o z).aF=cg z o.w.ah++cU z (bz o.got z.ag):=by
  show o.aF++cg z _++cU z _=_
  rw[j,List.nil_append]
 exact km.fin (o:=ba o z) (o' :=cR<|ba o z) ⟨h.num,h.st⟩ (by rw[D];omega) (λ_ _=>trivial) rfl
variable {o2:bB}
def Xs{x:bG}(h:sU o x=some o2)(Y:o.w.ah.length<=20)(X:x.ar.length<=8)(T:o.bu=[])(K:o.got=[]):km TP 3 o2:=by
 unfold sU at h;split at h
 case isFalse=>cases h
 unfold ug at h;split at h
 .cases h
 rename_i j V;split at h
 .cases h
 rename_i D W;cases h;have N:=Fz o x x.ar;have H:=km.fin (o:={o with aF:=cW o x x.ar}) (o' :=fp {o with aF:=cW o x x.ar}) (AY (P:=TP) T) (by(show(cW o x x.ar).length<=2000);omega) (λ_ _=>trivial) rfl;have G:∀a,(bz (fp {o with aF:=cW o x x.ar}).got a).length<=8:=λa=>by
  have:=lT o.w (cW o x x.ar) [] a;have e:(bz ([]:List<|Bs×List Int) a).length=0:=rfl;show(bz (dA o.w o.got<|cW o x x.ar) a).length<=8
  rw[K];omega
 have l1:=EK (z:=j)<|G _;have l2:=EK (z:=D)<|G _;have J:(fp {o with aF:=cW o x x.ar}).w=o.w:=rfl;rw[J]at l1 l2;have I:=km.fin (o:=ba (ba (fp {o with aF:=cW o x x.ar}) j) D) (o' :=cR<|ba (ba (fp {o with aF:=cW o x x.ar}) j) D) ⟨H.num,H.st⟩ (by
  show((([]++cg j o.w.ah++cU j (bz (fp {o with aF:=cW o x x.ar}).got j.ag))++cg D o.w.ah++cU D (bz (fp {o with aF:=cW o x x.ar}).got D.ag)).length<=2000)
  rw[List.nil_append,List.append_assoc,List.length_append];omega) (λ_ _=>trivial) rfl
 have U:=CN x o.w.ah;exact km.fin (o:={cR (ba (ba (fp {o with aF:=cW o x x.ar}) j) D)with aF:=gh x o.w.ah}) (n:=2) ⟨I.num,I.st⟩ (by(show(gh x o.w.ah).length<=2000);omega) (λ_ _=>trivial) rfl
def Xi{x:bG}(h:sS o x=some o2)(H:o.w.ah.length<=20)(G:o.bu=[])(j:o.aF=[])(D:o.got=[]):km TP 3 o2:=by
 unfold sS DG rV zB at h;split at h
 case isFalse=>cases h
 split at h
 case isFalse=>cases h
 split at h
 .cases h
 split at h
 case isFalse=>cases h
 split at h
 .cases h
 split at h
 .cases h
 cases h;have g:∀a,(bz o.got a).length<=0:=λa=>by rw[D];exact Nat.le_refl _
 exact sV (sV (sV (AY G) j (g _)<|by omega) rfl (g _)<|by(show o.w.ah.length+0<=2000);omega) rfl (g _) (by(show o.w.ah.length+0<=2000);omega)
def UY{x:bG}(h:uz o x=some o2)(N:o.w.ah.length<=20)(K:x.ar.length<=8)(I:o.bu=[])(G:o.got=[]):km TP 2 o2:=by
 unfold uz at h;split at h
 case isFalse=>cases h
 split at h
 .cases h
 rename_i j H;unfold tG tI at h;split at h
 .cases h
 cases h;have D:(fQ j x.ar).length=x.ar.length:=by unfold fQ;rw[au]
 have J:=km.fin (o:={o with aF:=fQ j x.ar}) (o' :=fp {o with aF:=fQ j x.ar}) (AY (P:=TP) I) (by(show(fQ j x.ar).length<=2000);omega) (λ_ _=>trivial) rfl;refine sV (m:=8) J rfl ?_ (by(show o.w.ah.length+8<=2000);omega);have:=lT o.w (fQ j x.ar) [];show(bz (dA o.w o.got<|fQ j x.ar) _).length<=8
 rw[G];exact Nat.le_trans (this _) (by rw[D];show 0+_<=8;omega)
def Ca{o:bB}{x:bG}{H:Datum}{m:Nat}(G:∀a,(bz o.got a).length<=m):∀(l:List Bs) {j D:List al},nU o x H l j=some D->D.length<=j.length+l.length*(o.w.ah.length+m)
 |[],j,D,h=>by
  unfold nU at h;cases h;simp
 |a::t,j,D,h=>by
  unfold nU at h;split at h
  .split at h
   .cases h
   .rename_i z I;have l1:=EK (z:=z)<|G z.ag;have h1:=Ca G t h;simp only[List.length_append,List.length_cons,Nat.add_mul]at h1 l1 ⊢;omega
  .have h1:=Ca G t h;simp only[List.length_cons,Nat.add_mul];omega
def VD{x:bG}{host:Int}(h:wW o x host=some o2)(X:o.w.ah.length<=20)(U:o.bu=[])(T:o.got=[]):km TP 3 o2:=by
 unfold wW at h;split at h
 case isFalse=>cases h
 unfold Je at h;generalize j:gn o host (dS (λp=>(qS (wfR o.ai x.name 1).1.data host 0 o.w.ar).contains p.host) o.w.ah)=gl at h;generalize qS (wfR o.ai x.name 1).1.data host 0 o.w.ar=D at h j;have I:gl.length<=20:=by
  rw[<- j];have:=Ko o host<|dS (λp=>D.contains p.host) o.w.ah;have:=qH (λp=>D.contains p.host) o.w.ah;omega
 unfold yF at h;split at h
 .cases h
 rename_i G H;cases h;have J:=km.fin (o:={o with aF:=gl}) (o' :=fp {o with aF:=gl}) (AY (P:=TP) U) (by(show gl.length<=2000);omega) (λ_ _=>trivial) rfl;have h1:=Ca (m:=20) (o:=fp {o with aF:=gl}) (λa=>by
  have:=lT o.w gl [] a;have e:(bz ([]:List<|Bs×List Int) a).length=0:=rfl;show(bz (dA o.w o.got gl) a).length<=20
  rw[T];omega) _ H
 have N:=qH (λ_=>true) o.w.ah;have W:(dS (λ_=>true) (fp {o with aF:=gl}).w.ah).length*((fp {o with aF:=gl}).w.ah.length+20)<=20*40:=Nat.mul_le_mul (by(show(dS (λ_=>true) o.w.ah).length<=20);omega) (by(show o.w.ah.length+20<=40);omega);have K:=km.fin (o:={fp {o with aF:=gl}with aF:=G}) (o' :=cR {fp {o with aF:=gl}with aF:=G}) ⟨J.num,J.st⟩ (by(show G.length<=2000);simp only[List.length_nil]at h1;omega) (λ_ _=>trivial) rfl;have V:=Hs D o.w.ah
 exact km.fin (o:={cR {fp {o with aF:=gl}with aF:=G}with aF:=lv D o.w.ah}) ⟨K.num,K.st⟩ (by(show(lv D o.w.ah).length<=2000);omega) (λ_ _=>trivial) rfl
def WZ{n:Int}(h1:0<=n)(j:n<(w.ar.length:Int)):cr w n=true:=by
 unfold cr;simp[h1,j]
def PI{x:bG}(h:py w x since aT=some o)(K:cT w=true)(G:gD w x=true)(D:w.ah.length<=20):km TP 3 o/\True:=by
 refine⟨?_,trivial⟩;unfold gD at G;simp only[aK,Bool.not_eq_true',Bool.or_eq_false_iff,Bool.not_eq_false']at G;obtain⟨_,N,j⟩:=G;unfold py at h;split at h
 case isFalse=>cases h
 unfold xI at h;unfold lr at j;split at h
 .rename_i k;rw[if_pos k,aK]at j;exact Xs h D (nA j.2).1 rfl rfl
 split at h
 .exact Xi h D rfl rfl rfl
 split at h
 .exact VD h D rfl rfl
 split at h
 .rename_i H I J k;rw[if_neg H,if_neg I,if_neg J,if_pos k,aK,aK]at j;exact(UY h D (nA j.1.2).1 rfl rfl).more (by decide)
 .rename_i H I J k;rw[if_neg H,if_neg I,if_neg J,if_neg k]at j;cases j
def ya(H:aW z=true):fj z=gp z:=by
 have J:=bt H;obtain⟨k,s,j,D,hp⟩:=wZ (rf.1 H).start;unfold fj gp;rw[SR J.rising.pw D hp,D,WH];unfold atI at j;cases G:z.af.findIdx? (is ⟨z.ag,4⟩)with
 |none=>rw[G]at j;dsimp only at j;omega
 |some i =>
  rw[G]at j;have:i=k:=by dsimp only at j;omega
  subst this;dsimp only;rw[D];cases I:s.set.data<;>simp[I]
variable {p:al}
def Di{q:al}(hp:aW p.ai=true)(j:aW q.ai=true):(JB q p<0) ↔ ik p q=true:=by
 unfold JB;rw[NP hp j,ya hp,ya j];unfold dI;simp only[Bool.or_eq_true,aK,decide_eq_true_eq];split<;>split<;>(try split)<;>(try split)<;>(try split)<;>omega
def Ju(a:Bs):∀(l:List al) (i:Nat) (b:Option<|Nat×al),(∀p∈l,aW p.ai=true)->(∀x,b=some x->aW x.2.ai=true)->nV a b i l=nh (λp=>p.ai.ag==a) ik i l b
 |[],i,b,_,_=>rfl
 |p::t,i,b,J,I=>by
  have hp:=J p (List.mem_cons_self ..);have e:qc a b i p=iZ (λp=>p.ai.ag==a) ik i p b:=by
   unfold qc iZ;by_cases h:p.ai.ag=a
   .rw[if_neg<|by simp[h],if_pos<|by simp[h]];cases b with
    |none=>rfl
    |some x =>
     obtain⟨j,q⟩:=x;have H:=I _ rfl;dsimp only;by_cases G:JB q p<0
     .rw[if_pos G,if_pos<|(Di hp H).1 G]
     .rw[if_neg G,if_neg λh=>G<|(Di hp H).2 h]
   .rw[if_pos<|by simp[h],if_neg<|by simp[h]]
  show nV a (qc a b i p) (i+1) t=nh _ ik (i+1) t (iZ (λp=>p.ai.ag==a) ik i p b)
  rw[<- e];refine Ju a t (i+1) _ (λq H=>J q<|aZ _ H) λx D=>?_
  unfold qc at D;split at D
  .exact I x D
  .split at D
   .cases D;exact hp
   .split at D
    .cases D;exact hp
    .cases D;exact I _ rfl
variable {zs:List al}
def JI(j:∀p∈zs,aW p.ai=true)(a:Bs):xl zs a=js zs a:=Ju a zs 0 none j λx D=>by cases D
def Gs(a:Bs):∀(l:List al) (i:Nat) (b x:Option<|Nat×al),(∀y,b=some y->y.2.ai.ag=a)-> ∀y,nh (λp=>p.ai.ag==a) ik i l b=some y->y.2.ai.ag=a
 |[],i,b,_,D,y,h=>D y h
 |p::t,i,b,x,D,y,h=>by
  refine Gs a t (i+1) _ x (λz j=>?_) y h;split at j
  .rename_i hp;split at j
   .cases j;simpa using hp
   .split at j
    .cases j;simpa using hp
    .exact D z j
  .exact D z j
def eL{a:Bs}{k:Nat}(h:js zs a=some (k,p)):zs[k]? =some p/\p.ai.ag=a:=⟨JH zs a _ h,Gs a zs 0 none none (λy j=>by cases j) _ h⟩
def Qw{a:Bs}(h:js zs a=none):∀p∈zs,p.ai.ag≠a:=λp hp e=>by
 have:=((yI zs 0 none).1 h).2 p hp;simp[e]at this
def Zy(j:∀p∈zs,aW p.ai=true){a:Bs}{k:Nat}(h:js zs a=some (k,p)):cq zs a=(p.ai,true):=by
 unfold cq;rw[JI j,h]
variable {k:Int}{x:Signed}
def kI{s:Bs}:isF s k x=true ↔ x.place=(s,k):=by
 unfold isF Signed.place;simp
def pg{s:Bs}{k:Int}:∀{l:List Signed},RP l->l.countP (isF s k)<=1
 |[],_=>by simp
 |x::t,h=>by
  obtain⟨h1,j⟩:=List.pairwise_cons.1 h;rw[List.countP_cons];split
  .rename_i G;have:t.countP (isF s k)=0:=by
    rw[List.countP_eq_zero];exact λy H D=>lS (h1 y H)<|(kI.1 G).trans (kI.1 D).symm
   omega
  .have:=pg (s:=s) (k:=k) j;omega
def Kc{p:Signed->Bool}:∀{l:List Signed} {x:Signed},l.countP p<=1->x∈l->p x=true->l.find? p=some x
 |[],_,_,j,_=>by cases j
 |y::t,x,h,j,hp=>by
  rw[List.countP_cons]at h;by_cases D:p y=true
  .rw[if_pos D]at h;have h0:t.countP p=0:=by omega
   rw[List.find?_cons,D];rcases List.mem_cons.1 j with e|j
   .rw[e]
   .exact absurd hp<|List.countP_eq_zero.1 h0 x j
  .rw[List.find?_cons,show p y=false by simpa using D];rcases List.mem_cons.1 j with e|j
   .rw[e]at hp;exact absurd hp D
   .exact Kc (by omega) j hp
def Ke{p:Signed->Bool}{x:Signed}(D:p x=false):∀{l:List Signed} {i:Nat} {y:Signed},l[i]? =some y->p y=false->(l.set i x).find? p=l.find? p
 |y::t,0,z,h,j=>by
  have h:y=z:=by simpa using h
  rw[List.set_cons_zero,List.find?_cons,List.find?_cons,D,h,j]
 |y::t,i+1,z,h,j=>by
  rw[List.set_cons_succ,List.find?_cons,List.find?_cons,Ke D (by simpa using h) j]
def Tw{l:List Signed}{h:Nat}(e:xt l x h=true):∃y,l[h]? =some y/\y.set.type=x.set.type:=by
 unfold xt at e;split at e
 .rename_i y j;refine⟨y,j,?_⟩;unfold zR dI at e;rw[beq_iff_eq]at e;split at e
  .split at e
   .cases e
   .split at e
    .cases e
    .omega
  .contradiction
 .cases e
def rL(z:ax)(s:Bs)(k aJ:Int)(d:List Datum):(∃i y,z.af[i]? =some y/\y.set.type=k/\(bN z s k aJ d).af=z.af.set i (fc z s k aJ d))\/ ∃i,(bN z s k aJ d).af=z.af.take i++[fc z s k aJ d]++z.af.drop i:=by
 by_cases h:xt z.af (fc z s k aJ d) (bsW z.af<|fc z s k aJ d)=true
 .obtain⟨y,D,j⟩:=Tw h;exact .inl ⟨_,y,D,j,by unfold bN;rw[if_pos h]⟩
 .exact .inr ⟨_,by unfold bN;rw[if_neg h]⟩
def Ff(z:ax)(s:Bs)(k aJ:Int)(d:List Datum):isF s k (fc z s k aJ d)=true:=kI.2 rfl
def ON(z:ax)(s:Bs)(k aJ:Int)(d:List Datum):fc z s k aJ d∈(bN z s k aJ d).af:=by
 rcases rL z s k aJ d with ⟨i,y,h,_,e⟩|⟨i,e⟩
 .rw[e];exact List.mem_set (aA.1 h).1 _
 .rw[e];simp
def SX(z:ax)(s:Bs)(aJ:Int)(d:List Datum)(D :Bs){j :Int}(G:j ≠k):wfR (bN z s k aJ d) D j =wfR z D j :=by
 have H:isF D j (fc z s k aJ d)=false:=by
  unfold isF fc;simp[Ne.symm G]
 unfold wfR mX;rcases rL z s k aJ d with ⟨i,y,h,I,e⟩|⟨i,e⟩
 .rw[e,Ke H h<|by unfold isF;simp[I,Ne.symm G]]
 .rw[e,List.append_assoc,List.find?_append,List.find?_append,List.find?_singleton,H];conv=>rhs;rw[<- List.take_append_drop i z.af,List.find?_append]
  rfl
def VU(s:Bs)(aJ:Int)(d:List Datum)(D:x∈z.af)(H:x.set.type≠k):x∈(bN z s k aJ d).af:=by
 rcases rL z s k aJ d with ⟨i,y,h,I,e⟩|⟨i,e⟩
 .rw[e];obtain⟨j,G⟩:=cO D;refine aw (i:=j) ?_;rw[List.getElem?_set_ne,G];rintro rfl;rw[h]at G;cases G;exact H I
 .rw[e];rw[<- List.take_append_drop i z.af]at D;rcases List.mem_append.1 D with D|D<;>simp[D]
def Ba{s:Bs}(h:z.af.countP (isF s k)<=1)(j:x∈z.af)(hp:isF s k x=true):wfR z s k=(x.set,true):=by
 unfold wfR mX;rw[Kc h j hp]
def Rs{j:List Bs}{y:cH}(h:y∈fX z j):y.type=8:=by
 unfold fX at h;obtain⟨i,_,rfl⟩:=List.mem_map.1 h;rfl
def tr{p:Signed->Bool}:∀(l:List Signed) (j:List cH) (acc:List Signed),(∀y∈j,p ⟨y,[]⟩=false)->(iV l j acc).find? p=(acc++l).find? p
 |[],j,acc,_=>by rw[Ai,List.append_nil]
 |s::t,j,acc,h=>by
  rw[yr];split
  .rw[tr t j _ h,List.append_assoc];rfl
  .split
   .rw[tr t j.tail _ λy D=>h y<|List.mem_of_mem_tail D];cases j with
    |nil=>simp
    |cons y j =>
     have:=h y (List.mem_cons_self ..);simp only[List.tail_cons,List.find?_append,List.append_assoc,List.find?_cons,List.find?_nil,this,List.cons_append,List.nil_append]
   .rw[tr t j _ h,List.append_assoc];rfl
def Gv(h:(eW z).2=0)(s:Bs)(D:k≠8):wfR (eW z).1 s k=wfR z s k:=by
 unfold eW at h ⊢;split at h
 .cases h
 rename_i H;rw[if_neg H];split at h
 .rename_i j;exact absurd h (by simpa using j)
 rename_i j;rw[if_neg j];split at h
 .cases h
 rename_i I;rw[if_neg I];dsimp only;unfold wfR mX;dsimp only;rw[tr _ _ _ λy J=>by
  have:y.type=8:=Rs J;unfold isF;simp[this,Ne.symm D],List.nil_append]
 have:∀l:List Signed,(l.filter gZ).find? (isF s k)=l.find? (isF s k):=λl=>by
  rw[List.find?_filter]
  congr 1
  funext x
  unfold gZ isF;by_cases G:x.set.type=k
  .rw[G,show(k != 8)=true by simp[D]];cases (x.set.name==s&&k==k)<;>rfl
  .simp[G]
 unfold cJ;rw[this]
def Hm(ag:Bs)(K:List eo)(a b:Int)(s:Bs)(k:Int):∀(os:List Bool) (l:List Signed),os.length=l.length->((jA ag K a b os l).find?<|isF s k).map (·.set)=(l.find?<|isF s k).map (·.set)
 |[],[],_=>rfl
 |o::os,x::t,h=>by
  have e:isF s k (Ez ag K a b o x)=isF s k x:=rfl;rw[jA,List.find?_cons,List.find?_cons,e];cases isF s k x with
  |true=>rfl
  |false=>exact Hm ag K a b s k os t (by simpa using h)
def PR(z:ax)(s:Bs)(k:Int):wfR z s k=match (z.af.find?<|isF s k).map (·.set)with|some x=>(x,true)|none=>(wR,false):=by
 unfold wfR mX;cases z.af.find? (isF s k)<;>rfl
def Ln(z:ax)(K:List eo)(a b:Int)(s:Bs)(k:Int):wfR (mY z K a b) s k=wfR z s k:=by
 rw[PR,PR];have:=Hm z.ag K a b s k (nG z) z.af<|sc _ _ _;unfold mY;dsimp only;rw[this]
def ye(ag:Bs)(K:List eo)(a b:Int):∀(os:List Bool) (l:List Signed),os.length=l.length->(jA ag K a b os l).map (·.set)=l.map (·.set)
 |[],[],_=>rfl
 |o::os,x::t,h=>by
  rw[jA,List.map_cons,List.map_cons,ye ag K a b os t<|by simpa using h];rfl
def KW(D j :Bs->Bool)(H:∀s,D s=j s):∀(c:Bs) (l I :List Signed),l.map (·.set)=I.map (·.set)->oX D c l=oX j c I
 |_,[],[],_=>rfl
 |c,x::t,y::t',h=>by
  simp only[List.map_cons,List.cons.injEq]at h;have e:iQ D c x=iQ j c y:=by unfold iQ;rw[h.1,H]
  have J:∀G,zN G x=zN G y:=λG=>by unfold zN;rw[h.1]
  rw[oX,oX,e,J,KW D j H _ t t' h.2]
 |_,[],_::_,h=>by cases h
 |_,_::_,[],h=>by cases h
def Wo(ag:Bs):∀(l j :List Signed),l.map (·.set)=j.map (·.set)-> ∀s,iF ag l s=iF ag j s:=by
 intro l j h s;unfold iF;have:∀l:List Signed,l.any (λx=>sq ag x&&(x.set.name==s))=(l.map (·.set)).any (λy=>sq ag ⟨y,[]⟩&&(y.name==s)):=λl=>by rw[List.any_map];rfl
 first
  |rw[this,this,h]
  |(simp only[this,h])
def XN(z:ax)(K:List eo)(a b:Int):nG (mY z K a b)=nG z:=by
 have h:(mY z K a b).af.map (·.set)=z.af.map (·.set):=ye _ _ _ _ _ _<|sc _ _ _;exact KW _ _ (Wo z.ag _ _ h) _ _ _ h
def BN(ag:Bs)(K:List eo)(a b:Int):∀(os:List Bool) (l:List Signed),jA ag K a b os (jA ag K a b os l)=jA ag K a b os l
 |[],_=>by rw[jA.eq_def,jA.eq_def]
 |o::os,[]=>rfl
 |o::os,x::t=>by rw[jA,jA,BN ag K a b os t];rfl
def RZ(z:ax)(K:List eo)(a b:Int):mY (mY z K a b) K a b=mY z K a b:=by
 show(⟨z.ag,jA z.ag K a b (nG<|mY z K a b)<|jA z.ag K a b (nG z) z.af⟩:ax)=_
 rw[XN,BN];rfl
structure aaX(since aT:Int)(n:Int)(z:ax):Prop where
 valid:aW z=true
 next:(sD n).2=0
 acE:gp z=(sD n).1
 has:(wfR z z.ag 7).2=true
 keys:(dJ (wfR z z.ag 7).1).2=0
 again:iW z (dJ (wfR z z.ag 7).1).1 since aT=(z,0)
def acD{y:ax}(h:cY since aT y=some z):aaX since aT (ph (wfR y y.ag 4).1).n z:=by
 have ha:=ml h;obtain⟨h1,Y,Z,h4,h5,h6,h7,N,e⟩:=mN h;have G:(ej y).ag=y.ag:=rfl;have D:∀(c:ax) (K:List eo),(iW c K since aT).2=0->iW c K since aT=(mY c (pa K) since aT,0)/\ ∀z,aW z=true->iW z K since aT=(mY z (pa K) since aT,0):=λc K j=>by
  have hA:∀z,aW z=true->tN c K since aT=true->tN z K since aT=true:=λz V T=>by
   unfold tN at T ⊢;simp only[Bool.not_eq_true',Bool.or_eq_false_iff,Bool.not_eq_false']at T ⊢;exact⟨T.1,V⟩
  unfold iW at j ⊢;split at j
  .cases j
  rename_i H;rw[if_neg H];split at j
  .cases j
  rename_i I;rw[if_neg I];split at j
  .cases j
  rename_i W;rw[if_neg W];refine⟨rfl,λz V=>?_⟩;rw[if_neg<|by rw[hA z V<|by simpa using H];decide,if_neg I,if_neg W]
 obtain⟨H,I⟩:=D _ _ h7;rw[H]at e;dsimp only at e;have J:∀k:Int,k≠8->wfR z z.ag k=wfR (ej y) (ej y).ag k:=λk j=>by
  rw[ha,G];conv=>lhs;rw[e]
  rw[Ln,Gv h6 _ j]
 have U:wfR (ej y) y.ag 4=((fc y y.ag 4 0 [⟨[],(sD (ph (wfR y y.ag 4).1).n).1,(ph (wfR y y.ag 4).1).m⟩]).set,true) :=
  Ba (pg (bt h5).rising.pw) (ON ..) (Ff ..)
 refine⟨N,Y,?_,?_,?_,?_⟩
 .rw[<- ya N];have h0:=J 4 (by decide);rw[G,U]at h0;unfold fj;unfold wfR at h0;cases X:mX z z.ag 4 with
  |none=>rw[X]at h0;exact absurd (congrArg Prod.snd h0) (by simp)
  |some x =>
   rw[X]at h0;have h0:=congrArg Prod.fst h0;dsimp only at h0 ⊢;rw[h0];rfl
 .rw[J 7<|by decide];exact Z
 .rw[J 7<|by decide];exact h4
 .rw[J 7<|by decide,I z N];conv=>lhs;rw[e]
  conv=>rhs;rw[e]
  rw[RZ]
def Gq{cx:Cx}{st j:St}{X:St->Prop}(D:aI cx st j)(h:App X j):∃st',aI cx st st' /\X st' :=⟨j,D,h⟩
def lvB(l:List al)(i j:Nat):Bool:=match l[i]?, l[j]? with
 |some p,some q=> !((p.ai.ag==q.ai.ag)&& !decide (p.ai=q.ai))
 |_,_=>true
def qo(w:aQ):Bool:=(List.range w.ah.length).all λi=>(List.range i).all<|lvB w.ah i
def KJ(h:qo w=true){q:al}(hp:p∈w.ah)(J:q∈w.ah)(e:p.ai.ag=q.ai.ag):p.ai=q.ai:=by
 obtain⟨i,D⟩:=cO hp;obtain⟨j,G⟩:=cO J;have key:∀(i j:Nat) (p q:al),w.ah[i]? =some p->w.ah[j]? =some q->p.ai.ag=q.ai.ag->j<i->p.ai=q.ai:=λi j p q D G e I=>by
  unfold qo at h;rw[aG]at h;have h1:=h i<|List.mem_range.2 (aA.1 D).1;rw[aG]at h1;have H:=h1 j<|List.mem_range.2 I;unfold lvB at H;rw[D,G]at H;simpa [e] using H
 rcases Nat.lt_trichotomy i j with hij|rfl|hij
 .exact(key j i q p G D e.symm hij).symm
 .rw[D]at G;cases G;rfl
 .exact key i j p q D G e hij
def Ul(w:aQ)(W:∀p∈w.ah,aW p.ai=true)(Z:w.ah.length<=100000):NQ.Fn cx 6 [.agg<|bF w] (.d<|.bool<|qo w) []:=by
 refine gr (fun|7=>[66666]|_=>[]) bf mixed Tryz.func6 ?_;conv=>whnf
 refine⟨Nat,λi=>⟨[(1,.ptr 1 0),(3,aj i)],[(1,.box<|(bF w).map .d)]⟩,λi=>i<=w.ah.length/\(List.range i).all (λi=>(List.range i).all<|lvB w.ah i)=true,λi=>w.ah.length-i,
  ⟨0,⟨Nat.zero_le _,rfl⟩,aI.keep⟩,?_⟩
 rintro i ⟨X,D⟩;conv=>whnf
 refine aD ?_ ?_<;>intro h1
 .have G:i<w.ah.length:=by simp at h1;omega
  obtain⟨p,hp⟩:∃p,w.ah[i]? =some p:=⟨_,ao G⟩
  have K:=W p<|aw hp;refine⟨Nat,λj=>⟨[(1,.ptr 1 0),(3,aj i),(4,aj j)],[(1,.box<|(bF w).map .d)]⟩,λj=>j<=i/\(List.range j).all (lvB w.ah i)=true,λj=>i-j,
   ⟨0,⟨Nat.zero_le _,rfl⟩,aI.keep⟩,?_⟩
  rintro j ⟨Y,H⟩;conv=>whnf
  refine aD ?_ ?_<;>intro U
  .have I:j<i:=by simp at U;omega
   obtain⟨q,T⟩:∃q,w.ah[j]? =some q:=⟨_,ao<|by omega⟩
   have J:lvB w.ah i j= !((p.ai.ag==q.ai.ag)&& !decide (p.ai=q.ai)):=by unfold lvB;rw[hp,T]
   refine cn<|M ?_
   refine⟨aB i,aP p,aL hp,M ?_⟩
   refine⟨aB j,aP q,aL T,M ?_⟩
   (refine⟨_,_,Oc p.ai q.ai (by have:=(bt K).few;omega) (dP K).2,M ?_⟩)
   (refine bJ<|M ?_)
   repeat' (first
    |(refine⟨aB i,aP p,aL hp,M ?_⟩)
    |(refine⟨aB j,aP q,aL T,M ?_⟩)
    |(refine aD ?_ ?_<;>intro h)
    |fail)
   all_goals first
    |exact⟨j+1,⟨I,by rw[List.range_succ,List.all_append,H];simp[J, *]⟩,by(show i-(j+1)<i-j;omega),aI.keep⟩
    | (refine ak rfl ?_
       have N:qo w=false:=by
        unfold qo;rw[List.all_eq_false];refine⟨i,List.mem_range.2 G,?_⟩;rw[aG];intro V;have:=V j<|List.mem_range.2 I;rw[J]at this
        simp_all
       rw[N];rfl)
  .obtain rfl:j=i:=by simp at U;omega
   exact⟨j+1,⟨G,by rw[List.range_succ,List.all_append,D];simp[H]⟩,by(show w.ah.length-(j+1)<w.ah.length-j;omega),aI.keep⟩
 .obtain rfl:i=w.ah.length:=by simp at h1;omega
  refine ak rfl ?_;unfold qo;rw[D];rfl
