/-
  Merged texts.
-/
import Derived.Test.YtjojkakjmoefaaaGreatDoorMQea
import Derived.Laws.Concat
set_option linter.all false

namespace NQ
open Go Go.RowKit
section
variable {cx:Cx} {st:St} {k:KK}
def bS.qj{E:Env}{σ:Nat->Value}{a:Act}{w:World}(h:bS cx E st σ a w):jO cx w:=λg cells G=>by
 obtain⟨h1,D,I⟩:=h.gR g cells G;obtain⟨J,_⟩:=h.ee g cells G;refine⟨Nat.lt_of_lt_of_le h1 h.frame.size,D,λj d H=>?_⟩;obtain⟨u,N,K⟩:=I j d H;exact⟨u,by rw[World.cell?_of_block (a:=⟨g,j,none⟩)<|h.frame.block g J];exact N,K.gP<|aG.1 D d<|aw H⟩
def bS.sW{E:Env}{σ:Nat->Value}{a:Act}{w:World}(h:bS cx E st σ a w)(b:Nat)(j:Own E.O (live st.heap) σ b):b<w.heap.size:=by
 rcases j with j|⟨s,hs,e⟩
 .rcases Nat.lt_or_ge b E.w0.heap.size with hl|hg
  .exact Nat.lt_of_lt_of_le hl h.frame.size
  .exact absurd (h.new b hg)<|h.apart b j
 .exact(h.holds.home hs e).2
def bS.tz{E:Env}{σ:Nat->Value}{a:Act}{w:World}(h:bS cx E st σ a w){g:Nat}{cells:List D}(I:cx.gl g=some cells):¬Own E.O (live st.heap) σ g:=by
 obtain⟨j,G⟩:=h.ee g cells I;rintro(H|⟨s,J,e⟩)
 .exact G H
 .exact j (h.holds.home J e).1
def jB{E:Env}{st' :St}{σ:Nat->Value}{a:Act}{w:World}(G:st.le st')(I:bS cx E st' σ a w):∀(xs:List Operand) (H:List TypeId),(cA cx st xs H).length=xs.length /\
 ∀(j:Nat) c,(cA cx st xs H)[j]? =some c-> ∃x,xs[j]? =some x/\aC w E.O (live st'.heap) σ c (a.eval x)
 |[],H=>⟨rfl,λj c h=>by simp[cA]at h⟩
 |x::xs,t::H=>by
  obtain⟨h1,J⟩:=jB G I xs H;refine⟨by simp[cA,h1],λj c D=>?_⟩;cases j with
  |zero=>simp[cA]at D;subst D;exact⟨x,rfl,kP<|I.ev G x⟩
  |succ j=>simp[cA]at D;simpa using J j c D
 |x::xs,[]=>by
  obtain⟨h1,J⟩:=jB G I xs [];refine⟨by simp[cA,h1],λj c D=>?_⟩;cases j with
  |zero=>simp[cA]at D;subst D;exact⟨x,rfl,I.ev G x⟩
  |succ j=>simp[cA]at D;simpa using J j c D
def qd{w:World}{O L:Nat->Prop}{σ:Nat->Value}{f:AV}{g:FuncId}{xs ys:List AV}(h:callee f=some (g,xs,ys)){u:Value}(I:aC w O L σ f u) :
 ∃us vs,u= .func (.func g) us vs/\us.size=xs.length/\vs.size=ys.length/\(∀j c,xs[j]? =some c->aC w O L σ c (us.getD j Go.undef))/\(∀j c,ys[j]? =some c->aC w O L σ c (vs.getD j Go.undef)):=by
 unfold callee at h;split at h
 .rename_i T first G
  cases h;cases I with|d _ _ I=>cases I with|fn _ _ _ us vs N K h1 J _ =>
   refine⟨us,vs,rfl,by simpa using N,by simpa using K,λj c D=>?_,λj c D=>?_⟩
   .rw[bc]at D;cases H:first[j]? with
    |none=>rw[H]at D;cases D
    |some y=>rw[H]at D;cases D;exact .d _ _<|h1 j y H
   .rw[bc]at D;cases H:G[j]? with
    |none=>rw[H]at D;cases D
    |some y=>rw[H]at D;cases D;exact .d _ _<|J j y H
 .cases h;cases I with|fn f first G us vs N K h1 J=>exact⟨us,vs,rfl,N,K,h1,J⟩
 .cases h
def TE{w w' :World}{O O' L D :Nat->Prop}{σ σ' :Nat->Value}{c:AV}{v:Value}(h:aC w O L σ c v)(j:TD c=true):aC w' O' D σ' c v:=by
 cases h<;>first|(rename_i h;exact .d _ _<|h.gP j)|cases j
def GI{w w' :World}{O O' L H :Nat->Prop}{σ σ' :Nat->Value}{c:AV}{v:Value}(h:aC w O L σ c v)(D:Kf c=true):aC w' O' H σ' c v:=by
 cases h with
 |d x v h=>exact .d _ _<|h.flat D
 |agg cs vs J I=>exact .agg _ _ J λj c G=>TE (I j c G)<|aG.1 D c<|aw G
 |_=>cases D
def GJ{w w' :World}{O O' L H :Nat->Prop}{σ σ' :Nat->Value}{c:AV}{v:Value}(h:aC w O L σ c v)(D:QN c=true):aC w' O' H σ' c v:=by
 cases c with
 |tuple vs =>
  cases h with|tuple _ us J I=>exact .tuple _ _ J λj c G=>GI (I j c G)<|aG.1 D c<|aw G
 |_=>exact GI h D
def mq{f g:AV->Option D}(h:∀c x,f c=some x->g c=some x):∀{l:List AV} {r:List D},cB f l=some r->cB g l=some r
 |[],r,e=>e
 |c::t,r,e=>by
  simp only[cB]at e ⊢;split at e
  .rename_i x xs h1 j;rw[h _ _ h1,mq h j];exact e
  .cases e
def EW{st' :St}(j:st.le st')(c:AV)(x:D)(h:mo st c=some x):mo st' c=some x:=by
 cases c<;>try exact h
 case omap s =>
  simp only[mo]at h ⊢;split at h
  .rename_i G;rw[j.heap _ _ G];exact h
  .rename_i G;rw[j.heap _ _ G];exact h
  .cases h
 simp only[mo]at h ⊢;split at h
 .rename_i G;rw[j.heap _ _ G];exact h
 .cases h
def mr{st' :St}(j:st.le st')(c:AV)(x:D)(h:ic st c=some x):ic st' c=some x:=by
 cases c<;>simp only[ic]at h ⊢<;>try exact EW j _ x h
 split at h
 .rename_i G;rw[j.heap _ _ G];dsimp only;split at h
  .rename_i h1;rw[mq (EW j) h1];exact h
  .cases h
 .cases h
def Sy{st' :St}(j:st.le st')(c:AV)(x:D)(h:qF st c=some x):qF st' c=some x:=by
 cases c<;>simp only[qF]at h ⊢<;>try exact mr j _ x h
 split at h
 .rename_i h1 G;rw[mq (mr j) h1,mq (mr j) G];exact h
 .cases h
def Sx{st' :St}(j:st.le st')(c:AV)(x:D)(h:na st c=some x):na st' c=some x:=by
 cases c with
 |ptr s off =>
  have e:oN st' s off=oN st s off\/oN st s off=none/\ic st (.ptr s off)=none:=by
   unfold oN;cases G:find st.heap s with
   |some b=>left;rw[j.heap _ _ G]
   |none =>
    right
    refine⟨by cases off<;>rfl,?_⟩;simp only[ic];rw[G]
  simp only[na]at h ⊢;rcases e with e|⟨e,e2⟩
  .rw[e];split at h
   .split at h
    .rename_i y H;rw[Sy j _ _ H];exact h
    .cases h
   .exact mr j _ x h
  .rw[e]at h;exact absurd (e2.symm.trans h) (by simp)
 |_=>(simp only[na]at h ⊢;exact mr j _ x h)
def EX{st' :St}(j:st.le st')(c:AV)(x:D)(h:lz st c=some x):lz st' c=some x:=by
 cases c<;>simp only[lz]at h ⊢<;>try exact mr j _ x h
 split at h
 .rename_i h1 G;rw[mq (mr j) h1,mq (Sx j) G];exact h
 .cases h
def Sw{st' :St}(j:st.le st')(c:AV)(x:D)(h:iU st c=some x):iU st' c=some x:=by
 cases c<;>simp only[iU]at h ⊢<;>try exact EX j _ x h
 split at h
 .rename_i h1;rw[mq (EX j) h1];exact h
 .cases h
def qC{xs ys D:Array Value}{A B C:List AV}(h1:xs.size=A.length)(G:ys.size=B.length){R:AV->Value->Prop}(H:∀j c,A[j]? =some c->R c (xs.getD j Go.undef))
 (I:∀j c,B[j]? =some c->R c (ys.getD j Go.undef)) (J:∀j c,C[j]? =some c->R c (D.getD j Go.undef)) (j:Nat) (c:AV) (h:(A++B++C)[j]? =some c):R c<|(xs++ys++D).getD j Go.undef:=by
 by_cases l1:j<A.length
 .rw[List.append_assoc,dm l1]at h;have:=H j c h
  rwa [show(xs++ys++D).getD j Go.undef=xs.getD j Go.undef by simp[Array.getElem?_append,show j<xs.size+ys.size by omega,show j<xs.size by omega]]
 .by_cases l2:j<A.length+B.length
  .rw[dm<|by simp;omega,cL<|by omega]at h;have:=I _ c h
   rwa [show(xs++ys++D).getD j Go.undef=ys.getD (j-A.length) Go.undef by simp[Array.getElem?_append,show j<xs.size+ys.size by omega,h1,G,show ¬j<A.length by omega,show j-A.length<B.length by omega]]
  .rw[cL<|by simp;omega]at h;have:=J _ c h
   rwa [show(xs++ys++D).getD j Go.undef=D.getD (j-(A++B).length) Go.undef by simp[Array.getElem?_append,show ¬j<xs.size+ys.size by omega,h1,G,show ¬j<A.length by omega,show ¬j-A.length<B.length by omega,Nat.sub_sub]]
def ace{o:Oper}{c:Call}{f:Operand}(ho:o.op= .call c)(hc:c.callee= .value f)(h:fnK cx st (st.ev cx f) (cA cx st c.args.toList c.argTypes.toList) k):∃v bs,de cx o st v bs/\k v bs:=by
 unfold fnK at h;split at h
 .rename_i g xs ys hg
  have enter : ∀ (E : Env) st' σ a w, st.le st' -> bS cx E st' σ a w -> im cx.P g -> ∃ G, (execOp a.eval o).run cx.P w = .ok (.enter g G) w /\ G.size = (xs ++ cA cx st c.args.toList c.argTypes.toList ++ ys).length /\
      ∀(j:Nat) cc,(xs++cA cx st c.args.toList c.argTypes.toList++ys)[j]? =some cc->aC w E.O (live st'.heap) σ cc (G.getD j Go.undef):=by
   intro E st' σ a w U K hV;obtain⟨us,vs,hu,s1,s2,r1,r2⟩:=qd hg<|K.ev U f;obtain⟨l1,l2⟩:=jB U K c.args.toList c.argTypes.toList;obtain⟨fn,kd,ke,hN⟩:=hV;refine⟨us++c.args.map a.eval++vs,?_,?_,qC s1 (by simp[l1]) r1 (λj cc hj=>?_) r2⟩
   .have hE :¬fn.name= "runtime.NumGoroutine" :=by simpa using ke
    have hI :¬fn.body=none:=by intro e;rw[e]at hN;cases hN
    simp[execOp,ho,resolve,hc,hu,Deferred.ofValue,invoke,callFunc,kd,hE,hI]
   .simp[s1,s2,l1]
   .obtain⟨x,hx,hr⟩:=l2 j cc hj;have:(c.args.map a.eval).getD j Go.undef=a.eval x:=by rw[bE]at hx;simp[hx]
    rw[this];exact hr
  split at h
  .unfold jf at h;split at h
   .rename_i s rest xu;split at h
    .rename_i cs ds hf hU;split at h
     .rename_i cells ku;obtain⟨v,X,hk⟩:=h;refine⟨v,[],de.Ja (by rw[ho];simp[nD,hc]) λE st' a w Q U hd Y ⟨σ,K⟩=>?_,hk⟩;obtain⟨G,W,Z,hM⟩:=enter E st' σ a w U K X.1;rw[xu]at hM Z;have xz :=U.heap s _ hf;obtain⟨B,cur,t,e1,e2,e3,e4,e5⟩:=K.holds.blk s _ xz;have I:live st'.heap s:=aH.2 ⟨_,xz⟩;have h0:G.getD 0 Go.undef= .pointer (some ⟨B,0,none⟩):=by
       have:=hM 0 _ rfl;generalize G.getD 0 Go.undef=u at this;cases this with|ptr _ _ b hL hσ=>rw[hσ]at e1;cases e1;rfl
      have kb:G= #[.pointer<|some ⟨B,0,none⟩]++G.extract 1 G.size:=by
       apply Array.ext
       .simp at Z ⊢;omega
       .intro i h1 h2;rcases i with _|i
        .have:G[0]=G.getD 0 Go.undef:=by simp[h1]
         rw[this,h0];simp
        .simp[Array.getElem_append]
         congr 1;omega
      obtain⟨k1,k2⟩:=cF hU;obtain⟨q1,q2⟩:=cF ku;have H:=X.2 (Own E.O (live st'.heap) σ) w B cur t (G.extract 1 G.size) (λb J=>K.sW b J) K.qj (λg cells hP=>K.tz hP) (.inr ⟨s,I,by rw[e1];rfl⟩) e3 (by rw[e4,q1])
       (λj d hj=>by
        obtain⟨cc,N,kW⟩:=q2 j d hj;have xx:cc= .d d:=by cases cc<;>simp[Rx]at kW;rw[kW]
        subst xx;refine⟨?_,?_⟩
        .rcases (e5 j _ N).1 with h1|h1
         .exact h1
         .cases h1
        .have:=(e5 j _ N).2;cases this with|d _ _ h=>exact h)
       (by simp at Z ⊢;omega)
       (λj d hj=>by
        obtain⟨cc,N,kU⟩:=k2 j d hj;have hr:=hM (j+1) cc (by simpa using N);have hD:j+1<G.size:=by rw[Z];have:=(aA.1 N).1;simp;omega
        have:(G.extract 1 G.size).getD j Go.undef=G.getD (j+1) Go.undef:=by
         simp[bU,Array.getElem?_extract,hD,show j<G.size-1 by omega,Nat.add_comm]
        rw[this];exact kG kU hr)
      rw[<- kb]at H;simp only[Oper.wp,W,Oper.upon];refine H.mono λen w' =>?_
      rintro⟨u,kp,t',rfl,p1,p2,p3,p4,p5,p6,p7,p8,p9⟩;dsimp only;have kn:bx w' w' (Own (Own E.O (live st'.heap) σ) (λ_=>False) λ_=>Value.nilFunc)<|Own E.O (live st'.heap) σ:=bx.less λb J=> .inl J
      refine⟨σ,K.acm hd I (by rw[e1];rfl) p1 p2 p3 p4 p5 (λb J=>?_) (p9.mono kn λs h=>h.elim)⟩;rw[xz]at J;cases J;refine⟨B,kp,t',e1,e2,p6,by rw[p7,q1],λj c hj=>?_⟩;obtain⟨d,xy⟩:∃d,cells[j]? =some d:=⟨_,ao<|by rw[q1];exact(aA.1 hj).1⟩
      obtain⟨cc,N,kW⟩:=q2 j d xy;rw[hj]at N;cases N;have xx:c= .d d:=by cases c<;>simp[Rx]at kW;rw[kW]
      subst xx;exact⟨.inl (p8 j d xy).1,.d _ _ (p8 j d xy).2⟩
     .exact h.elim
    .exact h.elim
   .exact h.elim
  split at h
  .rename_i ds hU;obtain⟨v,bs,X,kn⟩:=h;have kg:xH bs=true:=by
    cases J:xH bs with
    |true=>rfl
    |false=>rw[J]at kn;exact kn.elim
   have hk:k v bs:=by rw[kg]at kn;exact kn
   refine⟨v,bs,de.Ja (by rw[ho];simp[nD,hc]) λE st' a w Q U hd Y ⟨σ,K⟩=>?_,hk⟩;obtain⟨G,W,Z,hR⟩:=enter E st' σ a w U K X.1;obtain⟨l1,l2⟩:=cF hU;have H:=X.2 (Own E.O (live st'.heap) σ) w G (λb J=>K.sW b J) K.qj (λg cells hP=>K.tz hP) (Z.trans l1.symm) (λj d hj=>by
    obtain⟨cc,N,hd⟩:=l2 j d hj;exact kG hd<|hR j cc N)
   simp only[Oper.wp,W,Oper.upon];refine H.mono λe w' =>?_
   rintro⟨u,τ,rfl,V,T,hr⟩;dsimp only
   classical
   let σ' :Nat->Value:=λs=>if live bs s then τ s else σ s
   have e1:∀s,live bs s->σ' s=τ s:=λs I=>if_pos I
   have e2:∀s,live st'.heap s->σ' s=σ s:=λs I=>if_neg λJ=>Y s J I
   have hC:bx w' w' (Own (Own E.O (live st'.heap) σ) (live bs) τ)<|Own E.O (live<|bs++st'.heap) σ':=bx.less λb J=>by
    rcases J with J|⟨s,I,e⟩
    .exact .inl<|.inl J
    .rcases cP.1 I with I|I
     .rw[e1 s I]at e;exact .inr ⟨s,I,e⟩
     .rw[e2 s I]at e;exact .inl<|.inr ⟨s,I,e⟩
   have kl:∀s,live bs s->live (bs++st'.heap) s/\σ' s=τ s:=λs I=>⟨cP.2<|.inl I,e1 s I⟩
   refine⟨σ',K.grow hd e2 V (λq0 B hB I=>by have:=FI kg _ I;have:=(K.fix q0 B hB).1.2;omega) (λs b I e=>?_) (λs s' b I kC e e' =>?_) (λs b J=>?_)<|hr.mono hC kl⟩
   .rw[e1 s I]at e;exact(T.home I e).1
   .rw[e1 s I]at e;rw[e1 s' kC]at e';exact T.inj s s' b I kC e e'
   .have I:live bs s:=aH.2 ⟨b,J⟩;have:=(T.blk s b J).mono hC kl I λg _=>rfl;have hF:∀b,w.heap.size<=b->E.F b:=λb J=>K.new b<|Nat.le_trans K.frame.size J
    cases b with
    |box cells=>obtain⟨b,cur,t,q1,q2,q3⟩:=this;exact⟨b,cur,t,q1,hF _ q2,q3⟩
    |row e size rows fl=>obtain⟨xs,q1,q2,q3⟩:=this;exact⟨xs,q1,λb J=>hF _<|q2 b J,q3⟩
    |smap m=>obtain⟨b,es,cl,q1,q2,q3⟩:=this;exact⟨b,es,cl,q1,hF _ q2,q3⟩
    |cS m=>obtain⟨b,es,cl,q1,q2,q3⟩:=this;exact⟨b,es,cl,q1,hF _ q2,q3⟩
    |fb e size rows=>obtain⟨b,cur,t,q1,q2,q3⟩:=this;exact⟨b,cur,t,q1,hF _ q2,q3⟩
    |tail e size rows=>exact⟨this.1,λb J=>hF _<|this.2 b J⟩
    |iter left cur=>exact⟨this.1,λb J=>hF _<|this.2 b J⟩
    |dR m=>obtain⟨b,es,cl,q1,q2,q3⟩:=this;exact⟨b,es,cl,q1,hF _ q2,q3⟩
  .split at h
   .rename_i ds hU;obtain⟨v,X,hX,hk⟩:=h;refine⟨v,[],de.Ja (by rw[ho];simp[nD,hc]) λE st' a w Q U hd Y ⟨σ,K⟩=>?_,hk⟩;obtain⟨G,W,Z,hR⟩:=enter E st' σ a w U K X.1;rcases Bool.or_eq_true_iff.1 hX with hX|hlend
    case inr =>
     unfold DJ at hlend;split at hlend
     case h_2=>cases hlend
     rename_i yl kR;have yw:yl =ds:=by
      have:=Ah (λc y=>Oy) _ _ kR;rw[hU]at this;cases this;rfl
     subst yw;obtain⟨l1,l2⟩:=cF kR;have H:=X.2 (λb=>Own E.O (live st'.heap) σ b/\ ¬ud st σ b) w G (λb J=>K.sW b J.1) K.qj (λg cells hP h=>K.tz hP h.1) (Z.trans l1.symm) (λj d hj=>by
      obtain⟨cc,N,hd⟩:=l2 j d hj;exact Sv (λ_ _ h=>U.heap _ _ h) K.holds hd<|hR j cc N)
     simp only[Oper.wp,W,Oper.upon];refine H.mono λe w' =>?_
     rintro⟨u,τ,rfl,V,T,hr⟩;dsimp only;refine⟨σ,K.grow hd (λs _=>rfl) V (λq0 B hB I=>by simp[live,find]at I) (λs b I=>by simp[live,find]at I) (λs s' b I=>by simp[live,find]at I) (λs b J=>by simp[find]at J)<|Zo (λb J yF _=>?_) hr hlend⟩;by_cases I:ud st σ b
     .exact Rh (λ_ _ h=>U.heap _ _ h) K.holds V.block I
     .exact absurd (.inl ⟨J,I⟩) yF
    obtain⟨l1,l2⟩:=cF hU;have xi:∀{c:AV} {x:D},iU st c=some x-> ∀{u:Value},aC w E.O (live st'.heap) σ c u->Rep w (λ_=>False) x u:=λhv _ hr=>(Ag K.holds K.apart (Sw U _ _ hv) hr).mono (bx.less λb h=>h.elim)
    have H:=X.2 (λ_=>False) w G (λb J=>J.elim) K.qj (λg cells hP h=>h) (Z.trans l1.symm) (λj d hj=>by
     obtain⟨cc,N,hd⟩:=l2 j d hj;exact xi hd<|hR j cc N)
    simp only[Oper.wp,W,Oper.upon];refine H.mono λe w' =>?_
    rintro⟨u,τ,rfl,V,T,hr⟩;dsimp only;exact⟨σ,K.grow hd (λs _=>rfl) V (λq0 B hB I=>by simp[live,find]at I) (λs b I=>by simp[live,find]at I) (λs s' b I=>by simp[live,find]at I) (λs b J=>by simp[find]at J)<|GJ hr hX⟩
   .exact h.elim
 .exact h.elim
def uo(G:bC cx){o:Oper}(h:opK cx o.dst o.type st o.op k):∃v bs,de cx o st v bs/\k v bs:=by
 cases j:o.op
 case move x=>rw[j]at h;exact PA (.inl j) h
 case assign x=>rw[j]at h;exact Ux j h
 case pick c a b=>rw[j]at h;exact aau j h
 case alloc e=>rw[j]at h;exact XI G j h
 case box e x=>rw[j]at h;exact abx G j h
 case build t parts=>rw[j]at h;exact XJ G j h
 case buildSlice t len parts=>rw[j]at h;exact Im G j h
 case load t x=>rw[j]at h;exact aat G j h
 case nilCheck x=>rw[j]at h;exact NV j h
 case binOp op t x y ty =>
  rw[j]at h;simp only[opK]at h;split at h
  .rename_i Z xb J;obtain⟨T,h⟩:=h;unfold Ve at J;split at J
   .split at J
    .rename_i sa sb e1 e2;cases J;refine⟨_,[],de.value λE st' σ a w D H=>?_,h⟩;have X:=H.ev D x;have Y:=H.ev D y;rw[e1]at X;rw[e2]at Y;have v1:∃b:ByteArray,a.eval x= .string b/\b.data.toList=Z:=by
      generalize a.eval x=u at X
      cases X with|d _ _ K=>cases K;exact⟨_,rfl,by assumption⟩
     have v2:∃b:ByteArray,a.eval y= .string b/\b.data.toList=xb:=by
      generalize a.eval y=u at Y
      cases Y with|d _ _ K=>cases K;exact⟨_,rfl,by assumption⟩
     obtain⟨U,q1,l1⟩:=v1;obtain⟨V,q2,l2⟩:=v2;have s1:U.size=Z.length:=by rw[<- l1];exact(Array.length_toList (xs:=U.data)).symm
     have s2:V.size=xb.length:=by rw[<- l2];exact(Array.length_toList (xs:=V.data)).symm
     refine⟨.string<|U++V,?_,.d _ _<|.str _ _<|by rw[ByteArray.data_append,Array.toList_append,l1,l2]⟩;have N:=run_string_add_sum (P:=cx.P) w U V (by rw[s1,s2];exact T);simp only[execOp,j,q1,q2];simp[eqGuard,binOp,N]
    .cases J
   .cases J
  .exact mB (λρ=>do eqGuard op t x y (ρ x) (ρ y);binOp op t (ρ x) (ρ y)) (λρ=>by simp only[execOp,j]) (λv I E st' σ a w D H=>VX G I (H.ev D x) (H.ev D y) x y) h
 case unOp op t x =>
  rw[j]at h;exact mB (λρ=>Op.unary op<|ρ x) (λρ=>by simp only[execOp,j]) (λv I E st' σ a w D H=>aaL I<|H.ev D x) h
 case convert src dst x =>
  rw[j]at h;exact mB (λρ=>convert src dst<|ρ x) (λρ=>by simp only[execOp,j]) (λv I E st' σ a w D H=>Tk G I<|H.ev D x) h
 case makeFunc fn first caps=>rw[j]at h;exact NU j h
 case makeMap t r=>rw[j]at h;exact Rw G j h
 case makeSlice t l c=>rw[j]at h;exact KQ G j h
 case slice t x lo hi mx =>
  rw[j]at h;cases mx with
  |none=>exact ok_slice G j h
  |some _=>exact h.elim
 case fieldAddr s x f =>
  rw[j]at h;exact mB (λρ=>Instr.fieldAt s (ρ x) f) (λρ=>by simp only[execOp,j]) (λv I E st' σ a w D H=>Fv G I<|H.ev D x) h
 case field t x f =>
  rw[j]at h;refine mB (λρ=>Instr.field t (ρ x) f) (λρ=>by simp only[execOp,j]) (λv I E st' σ a w D H=>?_) h;split at I
  .rename_i r K;obtain rfl:=pq I;exact QI G K<|H.ev D x
  .cases I
 case indexAddr t x i=>rw[j]at h;exact KP G j h
 case index t x i=>rw[j]at h;exact XK G j h
 case lookup t x i ok=>rw[j]at h;exact Uy G j h
 case extract x i =>
  rw[j]at h;refine mB (λρ=>Instr.extract (ρ x) i) (λρ=>by simp only[execOp,j]) (λv I E st' σ a w D H=>?_) h;split at I
  .rename_i r K;obtain rfl:=pq I;exact JY K<|H.ev D x
  .cases I
 case call c =>
  rw[j]at h;simp only[opK,xg]at h;split at h
  .rename_i W;split at h
   .rename_i x t ha ht;exact aby G j W ha ht h
   .exact h.elim
  .rename_i f W;exact ace j W h
  .exact h.elim
 all_goals (rw[j]at h;exact h.elim)
end
def lW(cx:Cx)(o:Oper)(st j:St):Prop :=
 ∀(E:Env) a w (Q:Exit->Act->World->Prop),(∀e,o.dst=some e->e<E.nt)->Sim cx E st a w->o.wp cx.P a w (λD w' =>Sim cx E j D w') Q
def zo:List AV->(List AV->Prop)->Prop
 |[],k=>k []
 |c::t,k=>(match DW c with|some j =>zo t λt' =>k<|j ::t'|none=>zo t λt' =>k<|.undef::t')
def zp:∀(l:List AV) (k:List AV->Prop),zo l k->k l
 |[],k,h=>h
 |c::t,k,h=>by
  simp only[zo]at h;split at h
  .rename_i D j;have:=zp t _ h;rw[xP j]at this;exact this
  .rename_i j;have:=zp t _ h;have e:c= .undef:=by cases c<;>first|rfl|cases j
   rw[e];exact this
section
variable {cx:Cx} {st:St} {E:Env} {σ:Nat->Value} {a:Act} {w:World}
def gI{h:List<|Nat×Blk}{s j :Nat}{b:Blk}:find ((s,b)::h) j =if s=j then some b else find h j :=by
 by_cases e:s=j
 .subst e;rw[bo,if_pos rfl]
 .rw[bp _ _ e,if_neg e]
def gJ{h:List<|Nat×Blk}{s:Nat}{b:Blk}(j:live h s)(x:Nat):live ((s,b)::h) x ↔ live h x:=by
 unfold live;rw[gI];by_cases e:s=x
 .subst e;simpa using (show(find h s).isSome=true from j)
 .rw[if_neg e]
def gx{h:List<|Nat×Blk}{s:Nat}{b:Blk}(j:live h s):live ((s,b)::h)=live h:=funext λx=>propext<|gJ j x
def bS.write(h:bS cx E st σ a w){s g:Nat}{b:Blk}{w' :World}{d:Option Nat}{v:AV}{u:Value}(hd:∀e,d=some e->e<E.nt)(G:live st.heap s)(V:home (σ s)=some g)
 (h1:w'.os=w.os) (h2:w'.tape=w.tape) (h3:w'.output=w.output) (h4:w'.heap.size=w.heap.size) (T:∀k,k≠g->w'.heap[k]? =w.heap[k]?)
 (hb:bx w w' (Own E.O (live st.heap) σ) (Own E.O (live st.heap) σ)->du w' E.F E.O (live st.heap) σ s b) (hr:∀w',aC w' E.O (live st.heap) σ v u) :
 bS cx E ⟨bW st.aY d v,(s,b)::st.heap⟩ σ (a.put d u) w' :=by
 have I:Own E.O (live st.heap) σ g:= .inr ⟨s,G,V⟩;have W:bx w w' (Own E.O (live st.heap) σ)<|Own E.O (live st.heap) σ:=⟨by omega,λx H _=>T x λe=>H<|e ▸ I,λ_ H _=>H⟩
 have Y:∀s,live st.heap s->live st.heap s/\σ s=σ s:=λs h=>⟨h,rfl⟩
 have J:∀t,(St.mk (bW st.aY d v)<|(s,b)::st.heap).get t=if d=some t then v else st.get t:=λt=>St.gY st d v [] t
 refine⟨⟨h1.trans h.frame.os,h2.trans h.frame.tape,h3.trans h.frame.output,by rw[h4];exact h.frame.size,λx H=>?_⟩,h.new,h.apart,?_,?_,λt=>?_,⟨λK N U =>?_,?_⟩,h.gR,h.ee,λZ B X=>⟨(h.fix Z B X).1,λD =>(h.fix Z B X).2<|(gJ G _).1 D⟩⟩
 .rw[T x λe=>H<|e ▸ (h.holds.home G V).1];exact h.frame.block x H
 .cases d<;>exact h.defers
 .cases d<;>simp[Act.put,h.nt]
 .rw[J,jV<|by rw[h.nt];exact hd];show aC w' E.O (live<|(s,b)::st.heap) σ _ _
  rw[gx G];by_cases e:d=some t
  .rw[if_pos e,if_pos e];exact hr w'
  .rw[if_neg e,if_neg e];exact(h.aY t).mono W Y
 .show du w' E.F E.O (live<|(s,b)::st.heap) σ K N
  rw[gx G];have j :find ((s,b)::st.heap) K =some N :=U;rw[gI]at j;split at j
  .rename_i e;subst e;cases j;exact hb W
  .rename_i e;have D :live st.heap K :=aH.2 ⟨N,j⟩;exact(h.holds.blk K N j).mono W Y D λx H=>T x λe' =>e<|h.holds.inj s K g G D V<|e' ▸ H
 .exact λs1 s2 x l1 l2=>h.holds.inj s1 s2 x ((gJ G s1).1 l1)<|(gJ G s2).1 l2
def bS.abV(h:bS cx E st σ a w){s g:Nat}{b:Blk}{w' :World}{d:Option Nat}{v:AV}{u:Value}(hd:∀e,d=some e->e<E.nt)(I:live st.heap s)(W:home (σ s)=some g)
 (h1:w'.os=w.os) (h2:w'.tape=w.tape) (h3:w'.output=w.output) (Y:w.heap.size<=w'.heap.size) (U:∀k,k<w.heap.size->k≠g->w'.heap[k]? =w.heap[k]?)
 (hb:bx w w' (Own E.O (live st.heap) σ) (Own E.O (live st.heap) σ)->du w' E.F E.O (live st.heap) σ s b) (hr:aC w' E.O (live st.heap) σ v u) :
 bS cx E ⟨bW st.aY d v,(s,b)::st.heap⟩ σ (a.put d u) w' :=by
 have J:Own E.O (live st.heap) σ g:= .inr ⟨s,I,W⟩;have X:bx w w' (Own E.O (live st.heap) σ)<|Own E.O (live st.heap) σ:=⟨Y,λx H G=>U x G λe=>H<|e ▸ J,λ_ H _=>H⟩
 have hs:∀s,live st.heap s->live st.heap s/\σ s=σ s:=λs h=>⟨h,rfl⟩
 have K:∀t,(St.mk (bW st.aY d v)<|(s,b)::st.heap).get t=if d=some t then v else st.get t:=λt=>St.gY st d v [] t
 refine⟨⟨h1.trans h.frame.os,h2.trans h.frame.tape,h3.trans h.frame.output,Nat.le_trans h.frame.size Y,λx H=>?_⟩,h.new,h.apart,?_,?_,λt=>?_,⟨λN T V =>?_,?_⟩,h.gR,h.ee,λq0 B Z=>⟨(h.fix q0 B Z).1,λD =>(h.fix q0 B Z).2<|(gJ I _).1 D⟩⟩
 .have G:x<w.heap.size:=by
   rcases Nat.lt_or_ge x w.heap.size with G|kx
   .exact G
   .exact absurd (h.new x<|Nat.le_trans h.frame.size kx) H
  rw[U x G λe=>H<|e ▸ (h.holds.home I W).1];exact h.frame.block x H
 .cases d<;>exact h.defers
 .cases d<;>simp[Act.put,h.nt]
 .rw[K,jV<|by rw[h.nt];exact hd];show aC w' E.O (live<|(s,b)::st.heap) σ _ _
  rw[gx I];by_cases e:d=some t
  .rw[if_pos e,if_pos e];exact hr
  .rw[if_neg e,if_neg e];exact(h.aY t).mono X hs
 .show du w' E.F E.O (live<|(s,b)::st.heap) σ N T
  rw[gx I];have j :find ((s,b)::st.heap) N =some T :=V;rw[gI]at j;split at j
  .rename_i e;subst e;cases j;exact hb X
  .rename_i e;have D :live st.heap N :=aH.2 ⟨T,j⟩;exact(h.holds.blk N T j).mono X hs D λx H=>U x (h.holds.home D H).2 λe' =>e<|h.holds.inj s N g I D W<|e' ▸ H
 .exact λs1 s2 x l1 l2=>h.holds.inj s1 s2 x ((gJ I s1).1 l1)<|(gJ I s2).1 l2
def bS.Na(h:bS cx E st σ a w){s:Nat}{b:Blk}{w' :World}{d:Option Nat}{v:AV}{u:Value}(hd:∀e,d=some e->e<E.nt)(I:live st.heap s)
 (h1:w'.os=w.os) (h2:w'.tape=w.tape) (h3:w'.output=w.output) (W:w.heap.size<=w'.heap.size) (T:∀k,k<w.heap.size->home (σ s)≠some k->w'.heap[k]? =w.heap[k]?)
 (hb:bx w w' (Own E.O (live st.heap) σ) (Own E.O (live st.heap) σ)->du w' E.F E.O (live st.heap) σ s b) (hr:aC w' E.O (live st.heap) σ v u) :
 bS cx E ⟨bW st.aY d v,(s,b)::st.heap⟩ σ (a.put d u) w' :=by
 have V:bx w w' (Own E.O (live st.heap) σ)<|Own E.O (live st.heap) σ:=⟨W,λx H G=>T x G λe=>H<|.inr ⟨s,I,e⟩,λ_ H _=>H⟩
 have Y:∀s,live st.heap s->live st.heap s/\σ s=σ s:=λs h=>⟨h,rfl⟩
 have J:∀t,(St.mk (bW st.aY d v)<|(s,b)::st.heap).get t=if d=some t then v else st.get t:=λt=>St.gY st d v [] t
 refine⟨⟨h1.trans h.frame.os,h2.trans h.frame.tape,h3.trans h.frame.output,Nat.le_trans h.frame.size W,λx H=>?_⟩,h.new,h.apart,?_,?_,λt=>?_,⟨λK N U =>?_,?_⟩,h.gR,h.ee,λZ B X=>⟨(h.fix Z B X).1,λD =>(h.fix Z B X).2<|(gJ I _).1 D⟩⟩
 .have G:x<w.heap.size:=by
   rcases Nat.lt_or_ge x w.heap.size with G|kx
   .exact G
   .exact absurd (h.new x<|Nat.le_trans h.frame.size kx) H
  rw[T x G λe=>H (h.holds.home I e).1];exact h.frame.block x H
 .cases d<;>exact h.defers
 .cases d<;>simp[Act.put,h.nt]
 .rw[J,jV<|by rw[h.nt];exact hd];show aC w' E.O (live<|(s,b)::st.heap) σ _ _
  rw[gx I];by_cases e:d=some t
  .rw[if_pos e,if_pos e];exact hr
  .rw[if_neg e,if_neg e];exact(h.aY t).mono V Y
 .show du w' E.F E.O (live<|(s,b)::st.heap) σ K N
  rw[gx I];have j :find ((s,b)::st.heap) K =some N :=U;rw[gI]at j;split at j
  .rename_i e;subst e;cases j;exact hb V
  .rename_i e;have D :live st.heap K :=aH.2 ⟨N,j⟩;exact(h.holds.blk K N j).mono V Y D λx H=>T x (h.holds.home D H).2 λe' =>e<|h.holds.inj s K x I D e' H
 .exact λs1 s2 x l1 l2=>h.holds.inj s1 s2 x ((gJ I s1).1 l1)<|(gJ I s2).1 l2
def AQ(cells:List D)(off:Nat)(cs:List D):List D:=cells.take off++cs++cells.drop (off+cs.length)
def Uz{cells cs:List D}{off:Nat}(h:off+cs.length<=cells.length)(j:Nat):(AQ cells off cs)[j]? =if off<=j/\j<off+cs.length then cs[j-off]? else cells[j]? :=by
 unfold AQ;have G:(cells.take off).length=off:=by simp;omega
 by_cases h1:j<off
 .rw[if_neg<|by omega,List.append_assoc,dm<|by omega,List.getElem?_take,if_pos h1]
 .by_cases H:j<off+cs.length
  .rw[if_pos ⟨by omega,H⟩,List.append_assoc,cL<|by omega,G,dm<|by omega]
  .rw[if_neg<|by omega,cL<|by simp;omega,List.getElem?_drop]
   congr 1;simp;omega
def Ly(cx:Cx)(st:St)(t:TypeId)(H v:AV)(k:List (Nat×Blk)->Prop):Prop :=
 match cx.ty t,cellsOf (kO cx t v)with
 |some I,some G=>(match xQ G with
  |some cs=>(match Nat.beq cs.length I.size,cs.all AV.one with
   |true,true=>(match H with
    | .ptr s off=>(match find st.heap s with
     |some (.box cells)=>(match Nat.ble (off+cs.length) cells.length with
      |true=>zo (over cells off cs) λj =>k<|(s,.box j)::st.heap
      |false=>False)
     |_=>False)
    | .dy s sz i off=>(match find st.heap s,cB nZ cs with
     |some (.row e D rows fl),some ds=>(match Nat.beq D sz,Nat.ble (off+ds.length) sz,ds.all FR with
      |true,true,true=> ∃row,rows[i]? =some row/\k ((s,.row e D (rows.set i<|AQ row off ds) fl)::st.heap)
      |_,_,_=>False)
     |_,_=>False)
    |_=>False)
   |_,_=>False)
  |none=>False)
 |_,_=>False
def KT{cur:Array Value}{off:Nat}{us:List Value}(h:off+us.length<=cur.size)(j:Nat) :
 (cur.toList.take off++us++cur.toList.drop (off+us.length)).toArray.getD j Go.undef=if off<=j/\j<off+us.length then us.getD (j-off) Go.undef else cur.getD j Go.undef:=by
 have D:(cur.toList.take off).length=off:=by simp;omega
 simp only[bU,List.getElem?_toArray];by_cases h1:j<off
 .rw[if_neg<|by omega,List.append_assoc,dm<|by omega,List.getElem?_take,if_pos h1];simp
 .by_cases G:j<off+us.length
  .rw[if_pos ⟨by omega,G⟩,List.append_assoc,cL<|by omega,D,dm<|by omega];simp[List.getD]
  .rw[if_neg<|by omega,cL<|by simp;omega,List.getElem?_drop];have:off+us.length+(j-(List.take off cur.toList++us).length)=j:=by simp;omega
   rw[this];simp
def Yk(hT:bC cx){o:Oper}{t:TypeId}{ad v:Operand}(ho:o.op= .store t ad v){k:List (Nat×Blk)->Prop}(h:Ly cx st t (st.ev cx ad) (st.ev cx v) k) :
 ∃hp,lW cx o st ⟨bW st.aY o.dst<|.tuple [],hp⟩/\k hp:=by
 unfold Ly at h;split at h
 .rename_i ti yV yf kQ;split at h
  .rename_i cs hn;obtain rfl:=uj hn;split at h
   .rename_i hQ kD;have hQ:cs.length=ti.size:=bg hQ;have ko:∀{w:World} {O L:Nat->Prop} {σ:Nat->Value},aC w O L σ (.tuple []) Go.undef:= .tuple [] #[] rfl λj c G=>by simp at G
    split at h
    .rename_i s off xt;split at h
     .rename_i cells hf;split at h
      .rename_i hle;have hle:off+cs.length<=cells.length:=bA hle;refine⟨_,λE a w Q hd ⟨σ,T⟩=>?_,zp _ _ h⟩;have K:=T.ev (St.le.refl st) ad;rw[xt]at K;have hS:=kP (cx:=cx) (t:=t)<|T.ev (St.le.refl st) v;obtain⟨k1,k2⟩:=kZ kQ T.one hS;obtain⟨r1,r2⟩:=dU (w:=w) hT yf;obtain⟨g,cur,tt,e1,e2,e3,e4,e5⟩:=T.holds.blk s _ hf;have hl:live st.heap s:=aH.2 ⟨_,hf⟩;generalize xT:a.eval ad=ua at K;cases K with|ptr _ _ _ hL hσ =>
        rw[hσ]at e1;cases e1;have I:∀u∈(a.eval v).cells.toList,u.oneCell' =true:=λu hu=>by
         obtain⟨j,G,rfl⟩:=List.getElem_of_mem hu;have Z :j<cs.length:=by simpa [k1] using G
         have:=k2 j _<|ao Z;have h1:=aC.ky T.one this<|aG.1 kD _<|List.getElem_mem Z;have xE:j<(a.eval v).cells.size:=by simpa using G
         simpa [xE] using h1
        have ka:=run_storeCells_at (P:=cx.P) g off tt (a.eval v).cells.toList 0 cur w e3 (by simp;omega) I;simp only[Nat.add_zero]at ka;have hA:(execOp a.eval o).run cx.P w= .ok .skip (w.setRow g (cur.toList.take off++(a.eval v).cells.toList++cur.toList.drop (off+(a.eval v).cells.toList.length)).toArray):=by
         simp only[execOp,ho,Instr.storeAt,xT];simp[Instr.sureAddr,storeVar,r2,k1,hQ,ka]
        simp only[Oper.wp,hA,Oper.upon];refine⟨σ,T.write hd hl (by rw[hσ];rfl) rfl rfl rfl (by simp) (λx U=>setRow_other w g x _ U) (λhk=>?_) λ_=>ko⟩;refine⟨g,_,tt,hσ,e2,setRow_heap w g cur _ tt _ e3,?_,λj c G=>?_⟩
        .rw[BF hle, <- e4];simp;omega
        .rw[KU hle]at G;have H:(a.eval v).cells.toList.length=cs.length:=by simpa using k1
         have yM:(cur.toList.take off++(a.eval v).cells.toList++cur.toList.drop (off+(a.eval v).cells.toList.length)).toArray.getD j Go.undef=if off<=j/\j<off+cs.length then(a.eval v).cells.toList.getD (j-off) Go.undef else cur.getD j Go.undef:=by
          rw[KT<|by rw[H];omega,H]
         rw[yM];have kl:∀s,live st.heap s->live st.heap s/\σ s=σ s:=λs h=>⟨h,rfl⟩
         split at G
         .rename_i Y;rw[if_pos Y];refine⟨.inl<|aG.1 kD c<|aw G,?_⟩;have:=(k2 _ c G).mono hk kl
          rwa [show(a.eval v).cells.toList.getD (j-off) Go.undef=(a.eval v).cells.getD (j-off) Go.undef by simp[List.getD]]
         .rename_i Y;rw[if_neg Y];exact⟨(e5 j c G).1,(e5 j c G).2.mono hk kl⟩
      .exact h.elim
     .exact h.elim
    .rename_i s sz i off xt;split at h
     .rename_i e D rows fl ds hf hU;split at h
      .rename_i b1 b2 b3;obtain rfl:D =sz:=bg b1;have b2:off+ds.length<=D :=bA b2;obtain⟨row,J,h⟩:=h;refine⟨_,λE a w Q hd ⟨σ,T⟩=>?_,h⟩;have K:=T.ev (St.le.refl st) ad;rw[xt]at K;have hS:=kP (cx:=cx) (t:=t)<|T.ev (St.le.refl st) v;obtain⟨k1,k2⟩:=kZ kQ T.one hS;obtain⟨r1,r2⟩:=dU (w:=w) hT yf;obtain⟨l1,l2⟩:=cF hU;obtain⟨xs,o1,o2,o3,o4,o5⟩:=T.holds.blk s _ hf;have hl:live st.heap s:=aH.2 ⟨_,hf⟩;have xD:i<rows.length:=(aA.1 J).1;have za:=(o4 row<|aw J).1;generalize xT:a.eval ad=ua at K;cases K with|dy _ _ _ _ g' n' W o0 hL hσ =>
        rcases o1.2 with ⟨q1,_⟩|⟨g,cap,cur,q1,_,q3,q4,q5,q6,q7⟩
        .rw[hσ]at q1;cases q1
        .rw[hσ]at q1;cases q1;have H:(a.eval v).cells.toList.length=ds.length:=by rw[Array.length_toList,k1,l1]
         have I:∀u∈(a.eval v).cells.toList,u.oneCell' =true:=λu hu=>by
          obtain⟨j,G,rfl⟩:=List.getElem_of_mem hu;have Z :j<cs.length:=by simpa [k1] using G
          have:=k2 j _<|ao Z;have h1:=aC.ky T.one this<|aG.1 kD _<|List.getElem_mem Z;have xE:j<(a.eval v).cells.size:=by simpa using G
          simpa [xE] using h1
         have yd:i*D +off+ds.length<=rows.length*D :=by
          have:(i+1)*D <=rows.length*D :=Nat.mul_le_mul_right _ xD;rw[Nat.add_mul]at this;omega
         have yq:rows.length*D <=W *D :=Nat.mul_le_mul_right _ q4;have ka:=run_storeCells_at (P:=cx.P) g' (i*D +off) e (a.eval v).cells.toList 0 cur w q3 (by rw[H];omega) I;simp only[Nat.add_zero]at ka;have hA:(execOp a.eval o).run cx.P w= .ok .skip (w.setRow g' (cur.toList.take (i*D +off)++(a.eval v).cells.toList++cur.toList.drop (i*D +off+(a.eval v).cells.toList.length)).toArray):=by
          simp only[execOp,ho,Instr.storeAt,xT];simp[Instr.sureAddr,storeVar,r2,k1,hQ,ka]
         simp only[Oper.wp,hA,Oper.upon];refine⟨σ,T.write hd hl (by rw[hσ];rfl) rfl rfl rfl (by simp) (λx U=>setRow_other w g' x _ U) (λhk=>?_) λ_=>ko⟩;have kX:∀q,q<W *D ->(cur.toList.take (i*D +off)++(a.eval v).cells.toList++cur.toList.drop (i*D +off+(a.eval v).cells.toList.length))[q]? =some (if i*D +off<=q/\q<i*D +off+ds.length then(a.eval v).cells.getD (q-(i*D +off)) Go.undef else cur.getD q Go.undef):=λq hq=>by
          have:=KT (cur:=cur) (off:=i*D +off) (us:=(a.eval v).cells.toList) (by rw[H];omega) q;rw[H]at this ⊢;have N:q<(cur.toList.take (i*D +off)++(a.eval v).cells.toList++cur.toList.drop (i*D +off+ds.length)).length:=by simp[k1, <- l1];omega
          rw[ao N]
          congr 1
          simp only[bU,List.getElem?_toArray,ao N,Option.getD_some]at this;rw[this];simp[List.getD]
         refine⟨(cur.toList.take (i*D +off)++(a.eval v).cells.toList++cur.toList.drop (i*D +off+(a.eval v).cells.toList.length)).take<|rows.length*D,⟨?_,.inr ⟨g',W,_,?_,Nat.zero_le _,setRow_heap w g' cur _ e _ q3,?_,q5,?_,?_⟩⟩,o2,⟨o3.1,λe=>by rw[List.length_set];exact o3.2 e⟩,?_,λV r' j d X G=>?_⟩
         .simp[k1, <- l1,q6];omega
         .rw[hσ];simp
         .simpa using q4
         .simp[k1, <- l1,q6];omega
         .simp
         .intro r hr;rcases List.mem_or_eq_of_mem_set hr with hr|rfl
          .exact o4 r hr
          .refine⟨by unfold AQ;simp;omega,λx U=>?_⟩;unfold AQ at U;simp only[List.mem_append]at U;rcases U with (U|U)|U
           .exact(o4 row<|aw J).2 x<|List.mem_of_mem_take U
           .exact aG.1 b3 x U
           .exact(o4 row<|aw J).2 x<|List.mem_of_mem_drop U
         .have xa:V <rows.length:=by have:=(aA.1 X).1;simpa using this
          have kl:∀s,live st.heap s->live st.heap s/\σ s=σ s:=λs h=>⟨h,rfl⟩
          have yj:∀r j d,rows[V]? =some r->r[j]? =some d->j<D ->Rep w (Own E.O (live st.heap) σ) d (cur.getD (V *D +j) Go.undef):=λr j d hr G xF=>by
           obtain⟨u,hu,hd⟩:=o5 V r j d hr G;rw[<- q7,List.getElem?_take]at hu;split at hu
           .have:cur.getD (V *D +j) Go.undef=u:=by rw[bE]at hu;simp[hu]
            rw[this];exact hd
           .cases hu
          have xF:j<D :=by
           rw[List.getElem?_set]at X;split at X
           .try rw[if_pos<|by omega]at X
            cases X;have:=(aA.1 G).1;unfold AQ at this;simp at this;omega
           .have:=(aA.1 G).1;rw[(o4 r'<|aw X).1]at this;exact this
          have hq:V *D +j<rows.length*D :=by
           have:(V +1)*D <=rows.length*D :=Nat.mul_le_mul_right _ xa;rw[Nat.add_mul]at this;omega
          refine⟨_,by rw[List.getElem?_take,if_pos hq];exact kX _<|by omega,?_⟩;rw[List.getElem?_set]at X;split at X
          .rename_i e;subst e
           try rw[if_pos<|by omega]at X
           cases X;rw[Uz<|by omega]at G;split at G
           .rename_i Y;rw[if_pos<|by omega];obtain⟨c,hc,hd⟩:=l2 _ d G;have:=rS hd<|k2 _ c hc;rw[show i*D +j-(i*D +off)=j-off by omega];exact this.mono hk
           .rename_i Y;rw[if_neg<|by omega];exact(yj row j d J G xF).mono hk
          .rename_i kJ;have hW:¬(i*D +off<=V *D +j/\V *D +j<i*D +off+ds.length):=by
            intro ⟨x1,x2⟩;rcases Nat.lt_or_ge i V with N|kx
            .have:(i+1)*D <=V *D :=Nat.mul_le_mul_right _ N;rw[Nat.add_mul]at this;omega
            .have N:V <i:=by omega
             have:(V +1)*D <=i*D :=Nat.mul_le_mul_right _ N;rw[Nat.add_mul]at this;omega
           rw[if_neg hW];exact(yj r' j d X G xF).mono hk
      .exact h.elim
     .exact h.elim
    .exact h.elim
   .exact h.elim
  .exact h.elim
 .exact h.elim
end
def jn(s:Nat):AV->AV
 | .own j =>(match Nat.beq s j with|true=> .undef|false=> .own j)
 | .dy j a b c=>(match Nat.beq s j with|true=> .undef|false=> .dy j a b c)
 | .tl j a b=>(match Nat.beq s j with|true=> .undef|false=> .tl j a b)
 | .ptr j o=>(match Nat.beq s j with|true=> .undef|false=> .ptr j o)
 | .omap j =>(match Nat.beq s j with|true=> .undef|false=> .omap j)
 | .d x=> .d x
 | .nil z=> .nil z
 |_=> .undef
def xZ(s:Nat):AV->AV
 | .agg cs=> .agg<|cs.map<|jn s
 | .fn f a b=> .fn f (a.map<|jn s)<|b.map<|jn s
 | .tuple []=> .tuple []
 |v=>jn s v
def abF(s:Nat):Blk->Blk
 | .box cells=> .box<|cells.map<|jn s
 | .fb e z rows=> .fb e z (rows.map λr=>r.map<|xZ s)
 | .dR m=> .dR (m.map λp=>(p.1,jn s p.2))
 |b=>b
def jo(s:Nat):List (Nat×AV)->List (Nat×AV):=λl=>l.map λp=>(p.1,xZ s p.2)
def fG(s:Nat):List (Nat×Blk)->List (Nat×Blk):=λl=>l.map λp=>(p.1,abF s p.2)
def nv{α β:Type}(f:α->β):∀(l:List<|Nat×α) (i:Nat),find (l.map λp=>(p.1,f p.2)) i=(find l i).map f
 |[],i=>rfl
 |(k,x)::t,i=>by
  by_cases h:k=i
  .subst h;rw[List.map_cons,bo,bo];rfl
  .rw[List.map_cons,bp _ _ h,bp _ _ h,nv f t i]
section
variable {w:World} {O L:Nat->Prop} {σ:Nat->Value} {s:Nat}
def vR{s j :Nat}(h:Nat.beq s j =false):j ≠s:=λe=>by subst e;simp at h
def CE:∀b,Own (λb=>O b\/(L s/\home (σ s)=some b)) (λx=>L x/\x≠s) σ b ↔ Own O L σ b:=λb=>by
 constructor
 .rintro((h|⟨h,e⟩)|⟨x,⟨h,_⟩,e⟩)
  .exact .inl h
  .exact .inr ⟨s,h,e⟩
  .exact .inr ⟨x,h,e⟩
 .rintro(h|⟨x,h,e⟩)
  .exact .inl<|.inl h
  .by_cases j:x=s
   .subst j;exact .inl<|.inr ⟨h,e⟩
   .exact .inr ⟨x,⟨h,j⟩,e⟩
def jz{c:AV}{v:Value}(h:aC w O L σ c v):aC w (λb=>O b\/(L s/\home (σ s)=some b)) (λx=>L x/\x≠s) σ (jn s c) v:=by
 cases h with
 |undef=>exact .undef _
 |d x v h=>exact .d _ _<|h.mono (bx.less λb H=>(CE b).1 H)
 |nil=>exact .nil _
 |ptr D off b j h=>simp only[jn];split;exact .undef _;rename_i e;exact .ptr _ _ b ⟨j,vR e⟩ h
 |own D j=>simp only[jn];split;exact .undef _;rename_i e;exact .own _ ⟨j,vR e⟩
 |dy D size i off b n cap G j h=>simp only[jn];split;exact .undef _;rename_i e;exact .dy _ _ _ _ b n cap G ⟨j,vR e⟩ h
 |tl D size i b n cap G j h=>simp only[jn];split;exact .undef _;rename_i e;exact .tl _ _ _ b n cap G ⟨j,vR e⟩ h
 |omap D j=>simp only[jn];split;exact .undef _;rename_i e;exact .omap _ ⟨j,vR e⟩
 |maybe=>exact .undef _
 |agg=>exact .undef _
 |tuple=>exact .undef _
 |fn=>exact .undef _
def AJ{cs:List AV}{vs:Array Value}(h:∀j c,cs[j]? =some c->aC w O L σ c (vs.getD j Go.undef))(j:Nat)(c:AV)(D:(cs.map<|jn s)[j]? =some c) :
 aC w (λb=>O b\/(L s/\home (σ s)=some b)) (λx=>L x/\x≠s) σ c (vs.getD j Go.undef):=by
 rw[bc]at D;cases G:cs[j]? with
 |none=>rw[G]at D;cases D
 |some y=>rw[G]at D;cases D;exact jz<|h j y G
def Hj{c:AV}{v:Value}(h:aC w O L σ c v):aC w (λb=>O b\/(L s/\home (σ s)=some b)) (λx=>L x/\x≠s) σ (xZ s c) v:=by
 cases h with
 |agg cs vs H K=>exact .agg _ _ (by simpa using H)<|AJ K
 |fn f first J xs vs U H h1 N=>exact .fn _ _ _ _ _ (by simpa using U) (by simpa using H) (AJ h1)<|AJ N
 |tuple cs vs H K =>
  cases cs with
  |nil=>exact .tuple [] vs H λj c T=>by simp at T
  |cons=>exact .undef _
 |undef=>exact .undef _
 |d x v h=>exact jz<|.d x v h
 |nil=>exact .nil _
 |ptr G off b D h=>exact jz<|.ptr G off b D h
 |own G D=>exact jz<|.own G D
 |dy G size i off b n cap I D h=>exact jz<|.dy G size i off b n cap I D h
 |tl G size i b n cap I D h=>exact jz<|.tl G size i b n cap I D h
 |omap G D=>exact jz<|.omap G D
 |maybe p b h=>exact jz<|.maybe p b h
def Es{c:AV}(h:c.one=true\/c= .undef):(jn s c).one=true\/jn s c= .undef:=by
 rcases h with h|rfl
 .cases c<;>simp only[jn]<;>first|exact .inl h|exact .inr rfl|exact .inr trivial|(split<;>first|exact .inr rfl|exact .inl rfl)
 .exact .inr rfl
def UH{c:AV}(h:c.one=true\/c= .undef):(xZ s c).one=true\/xZ s c= .undef:=by
 cases c with
 |agg=>rcases h with h|h<;>cases h
 |tuple=>rcases h with h|h<;>cases h
 |fn=>exact .inl rfl
 |_=>exact Es (s:=s) h
end

section
variable {cx:Cx} {st:St} {E:Env} {σ:Nat->Value} {a:Act} {w:World}
def TJ{aY:List<|Nat×AV}{h h' :List<|Nat×Blk}(s t:Nat):(St.mk (jo s aY) h).get t=xZ s ((St.mk aY h').get t):=by
 simp only[St.get,jo,nv];cases find aY t<;>rfl
def DO{h:List<|Nat×Blk}{s:Nat}:live (fG s h)=live h:=funext λx=>by
 simp only[live,fG,nv];cases find h x<;>rfl
def bS.Zf(h:bS cx E st σ a w){s:Nat}{b:Blk}{w' :World}{d:Option Nat}{u τ:Value}{v:AV}(hd:∀e,d=some e->e<E.nt)(hl:live st.heap s)(xM:∀x,σ s≠ .pointer x)
 (h1:w'.os=w.os) (h2:w'.tape=w.tape) (h3:w'.output=w.output) (h4:w.heap.size<=w'.heap.size) (h5:∀k,k<w.heap.size->home (σ s)≠some k->w'.heap[k]? =w.heap[k]?)
 (hτ:∀g,home τ=some g->home (σ s)=some g\/w.heap.size<=g)
 (hb:∀σ' :Nat->Value,σ' s=τ->(∀x,x≠s->σ' x=σ x)->bx w w' (Own E.O (live st.heap) σ) (Own E.O (live st.heap) σ')->du w' E.F E.O (live st.heap) σ' s b)
 (hr:∀σ' :Nat->Value,σ' s=τ->aC w' E.O (live st.heap) σ' v u) :
 ∃σ',bS cx E ⟨bW (jo s st.aY) d v,(s,b)::fG s st.heap⟩ σ' (a.put d u) w' :=by
 let σ' :Nat->Value:=λx=>if x=s then τ else σ x
 have e1:σ' s=τ:=if_pos rfl;have U:∀x,x≠s->σ' x=σ x:=λx J=>if_neg J
 have hQ:=h.frame.size;have hk:bx w w' (Own E.O (live st.heap) σ)<|Own E.O (live st.heap) σ':=by
  refine⟨h4,λx J K=>h5 x K λe=>J<|.inr ⟨s,hl,e⟩,λx J K ho=>?_⟩;rcases ho with ho|⟨y,hy,e⟩
  .exact J<|.inl ho
  .by_cases yi:y=s
   .subst yi;rw[e1]at e;rcases hτ x e with e|e
    .exact J<|.inr ⟨y,hy,e⟩
    .omega
   .rw[U y yi]at e;exact J<|.inr ⟨y,hy,e⟩
 have xn :bx w w' (Own (λb=>E.O b\/(live st.heap s/\home (σ s)=some b)) (λx=>live st.heap x/\x≠s) σ) (Own E.O (live st.heap) σ') :=
  ⟨hk.size,λx J K=>hk.block x (λho=>J<|(CE x).2 ho) K,λx J K=>hk.own x (λho=>J<|(CE x).2 ho) K⟩
 have xo :∀x,(live st.heap x/\x≠s)->live st.heap x/\σ' x=σ x:=λx ⟨J,G⟩=>⟨J,U x G⟩
 have T:live ((s,b)::fG s st.heap)=live st.heap:=by
  rw[gx<|by rw[DO];exact hl,DO]
 have xC:∀t,(St.mk (bW (jo s st.aY) d v)<|(s,b)::fG s st.heap).get t=if d=some t then v else xZ s<|st.get t:=λt=>by
  have:=St.gY ⟨jo s st.aY,fG s st.heap⟩ d v [] t;rw[TJ (h' :=st.heap)]at this;exact this
 refine⟨σ',⟨h1.trans h.frame.os,h2.trans h.frame.tape,h3.trans h.frame.output,by omega,λx J=>?_⟩,h.new,h.apart,?_,?_,λt=>?_,⟨λN b' ym =>?_,λx y g lx ly ex ey=>?_⟩,h.gR,h.ee,λq0 B hB=>⟨(h.fix q0 B hB).1,λX =>?_⟩⟩
 .have K:x<w.heap.size:=by
   rcases Nat.lt_or_ge x w.heap.size with K|kx
   .exact K
   .exact absurd (h.new x<|by omega) J
  rw[h5 x K λe=>J (h.holds.home hl e).1];exact h.frame.block x J
 .cases d<;>exact h.defers
 .cases d<;>simp[Act.put,h.nt]
 .rw[xC,jV<|by rw[h.nt];exact hd];show aC w' E.O (live<|(s,b)::fG s st.heap) σ' _ _
  rw[T];by_cases e:d=some t
  .rw[if_pos e,if_pos e];exact hr σ' e1
  .rw[if_neg e,if_neg e];exact(Hj (s:=s)<|h.aY t).mono xn xo
 .show du w' E.F E.O (live<|(s,b)::fG s st.heap) σ' N b'
  rw[T];have H :find ((s,b)::fG s st.heap) N =some b' :=ym;rw[gI]at H;split at H
  .rename_i e;subst e;cases H;exact hb σ' e1 U hk
  .rename_i e;simp only[fG,nv]at H;cases hf:find st.heap N with
   |none=>rw[hf]at H;cases H
   |some b0 =>
    rw[hf]at H;cases H;have X :live st.heap N :=aH.2 ⟨b0,hf⟩;have G:N ≠s:=λe' =>e e'.symm
    have D:=h.holds.blk N b0 hf;have I:∀g,home (σ N)=some g->w'.heap[g]? =w.heap[g]? :=λg hg=>h5 g (h.holds.home X hg).2 λe' =>G<|h.holds.inj N s g X hl hg e'
    cases b0 with
    |box cells =>
     obtain⟨g,cur,t,V,p2,Y,p4,Z⟩:=D;refine⟨g,cur,t,(U N G).trans V,p2,(I g<|by rw[V];rfl).trans Y,by simpa using p4,λj c W=>?_⟩;have yJ :=AJ (s:=s) (λj c W=>(Z j c W).2) j c W;refine⟨?_,yJ.mono xn xo⟩;rw[bc]at W;cases hc:cells[j]? with
     |none=>rw[hc]at W;cases W
     |some y=>rw[hc]at W;cases W;exact Es (Z j y hc).1
    |row e size rows fl =>
     obtain⟨xs,V,p2,Y,p4,Z⟩:=D;refine⟨xs,⟨V.1,?_⟩,?_,⟨Y.1,λe=>by rw[U N G];exact Y.2 e⟩,p4,λi r j d hi W=>?_⟩
     .rw[U N G];rcases V.2 with q|⟨g,cap,cur,q1,q2,q3,q4⟩
      .exact .inl q
      .exact .inr ⟨g,cap,cur,q1,q2,(I g<|by rw[q1];rfl).trans q3,q4⟩
     .rw[U N G];exact p2
     .obtain⟨u,hu,hd⟩:=Z i r j d hi W;exact⟨u,hu,hd.mono hk⟩
    |smap m =>
     obtain⟨g,es,cl,V,p2,Y,p4,Z⟩:=D;refine⟨g,es,cl,(U N G).trans V,p2,(I g<|by rw[V];rfl).trans Y,p4,λj k v W=>?_⟩;obtain⟨e,he,kB,hv⟩:=Z j k v W;exact⟨e,he,kB.mono hk,hv.mono hk⟩
    |cS m =>
     obtain⟨g,es,cl,V,p2,Y,p4⟩:=D;exact⟨g,es,cl,(U N G).trans V,p2,(I g<|by rw[V];rfl).trans Y,p4.mono λ_ _ h=>h.mono hk⟩
    |fb e size rows =>
     obtain⟨g,cur,t,V,p2,Y,p4,Z⟩:=D;refine⟨g,cur,t,by rw[U N G,au];exact V,p2,(I g<|by rw[V];rfl).trans Y,λr hr=>?_,λi r j c hi W=>?_⟩
     .obtain⟨r0,xL,rfl⟩:=List.mem_map.1 hr;rw[au];exact p4 r0 xL
     .obtain⟨r0,c0,h1,h2,rfl⟩:=CG hi W;exact⟨⟨UH (Z i r0 j c0 h1 h2).1.1,(Z i r0 j c0 h1 h2).1.2⟩,(Hj (s:=s) (Z i r0 j c0 h1 h2).2).mono xn xo⟩
    |tail e size rows =>
     show jQ w' _ e size rows (σ' N)/\_
     rw[U N G];exact⟨D.1.mono I λ_ _ hr=>hr.mono hk,D.2⟩
    |iter left cur =>
     show rH w' _ left cur (σ' N)/\_
     rw[U N G];exact⟨D.1.mono I hk,D.2⟩
    |dR m =>
     obtain⟨g,es,cl,V,p2,Y,p4,Z⟩:=D;refine⟨g,es,cl,(U N G).trans V,p2,(I g<|by rw[V];rfl).trans Y,by rw[au];exact p4,λj k v W=>?_⟩;obtain⟨v0,kH,rfl⟩:=wX W;obtain⟨e,he,kB,hv⟩:=Z j k v0 kH;exact⟨e,he,kB,(jz hv).mono xn xo⟩
 .rw[T]at lx ly;by_cases J:x=s<;>by_cases hy:y=s
  .rw[J,hy]
  .subst J;rw[e1]at ex;rw[U y hy]at ey;rcases hτ g ex with e|e
   .exact h.holds.inj x y g lx ly e ey
   .have:=(h.holds.home ly ey).2;omega
  .subst hy;rw[e1]at ey;rw[U x J]at ex;rcases hτ g ey with e|e
   .exact h.holds.inj x y g lx ly ex e
   .have:=(h.holds.home lx ex).2;omega
  .rw[U x J]at ex;rw[U y hy]at ey;exact h.holds.inj x y g lx ly ex ey
 .have X :live ((s,b)::fG s st.heap) q0:=X;rw[T]at X;have hf:=(h.fix q0 B hB).2 X;by_cases J:q0=s
  .rw[J]at hf;exact absurd hf<|xM _
  .rw[U _ J];exact hf
def qX(st:St):AV->Option (Nat×List (List D))
 | .d (.slice sz rows)=>some (sz,rows)
 | .nil sz=>some (sz,[])
 | .own s=>(match find st.heap s with|some (.row _ sz rows _)=>some (sz,rows)|_=>none)
 |_=>none
def bS.LI(h:bS cx E st σ a w){s:Nat}{b:Blk}{w' :World}{d:Option Nat}{u τ:Value}{v:AV}(N:∀e,d=some e->e<E.nt)(U:live st.heap s)(j:∀x,σ s≠ .pointer x)
 (h1:w'.os=w.os) (G:w'.tape=w.tape) (H:w'.output=w.output) (I:w.heap.size<=w'.heap.size) (J:∀k,k<w.heap.size->home (σ s)≠some k->w'.heap[k]? =w.heap[k]?)
 (W:∀g,home τ=some g->home (σ s)=some g\/w.heap.size<=g)
 (K:∀σ' :Nat->Value,σ' s=τ->bx w w' (Own E.O (live st.heap) σ) (Own E.O (live st.heap) σ')->du w' E.F E.O (live st.heap) σ' s b)
 (V:∀σ' :Nat->Value,σ' s=τ->aC w' E.O (live st.heap) σ' v u) :
 ∃σ',bS cx E ⟨bW (jo s st.aY) d v,(s,b)::fG s st.heap⟩ σ' (a.put d u) w' :=h.Zf N U j h1 G H I J W (λσ' D _ T=>K σ' D T) V
def Ge(hs:bS cx E st σ a w){x:AV}{sz:Nat}{rows:List<|List D}(h:qX st x=some (sz,rows)){u:Value}(H:aC w E.O (live st.heap) σ x u) :
 ∃U c,u= .slice U rows.length c/\(∀r∈rows,r.length=sz/\ ∀d∈r,d.one=true) /\
  (rows≠[]-> ∃B off,U=some ⟨B,off,none⟩/\ ∀i r j d,rows[i]? =some r->r[j]? =some d-> ∃v,w.cell? ⟨B,off+(i*sz+j),none⟩=some v/\Rep w (Own E.O (live st.heap) σ) d v):=by
 unfold qX at h;split at h
 .cases h;cases H with|d _ _ H=>cases H with
  |empty=>exact⟨_,_,rfl,λr H=>by simp at H,λG=>absurd rfl G⟩
  |slice _ _ B off n cap us hn hO hB hc hl h1 Z =>
   subst hn;exact⟨_,_,rfl,hl,λ_=>⟨B,off,rfl,λi r j d I J=>⟨us i j,by rw[<- Nat.add_assoc];exact h1 i r j d I J,Z i r j d I J⟩⟩⟩
 .cases h;cases H;exact⟨_,_,rfl,λr H=>by simp at H,λG=>absurd rfl G⟩
 .rename_i s;split at h
  .rename_i e xj T fl hf;cases h;cases H with|own _ hL =>
    obtain⟨xs,o1,o2,o3,V,o5⟩:=hs.holds.blk s _ hf;rcases o1.2 with ⟨N,W⟩|⟨g,cap,cur,N,_,X,e4,_,e6,Y⟩
    .obtain rfl:rows=[]:=List.eq_nil_of_length_eq_zero W;exact⟨_,_,N,V,λG=>absurd rfl G⟩
    .refine⟨_,_,N,V,λ_=>⟨g,0,rfl,λi r j d I J=>?_⟩⟩;obtain⟨u,K,hd⟩:=o5 i r j d I J;refine⟨u,?_,hd⟩;rw[<- Y,List.getElem?_take]at K;split at K
     .simp only[World.cell?,X,Nat.zero_add];simpa using K
     .cases K
  .cases h
 .cases h
def pz(P:Program)(w:World){t ty e:TypeId}{i:TypeInfo}(H:P.underlying t=some (.slice e))(D:P.info? e=some i){base:Option Addr}{n cap:Nat}(G:n<=cap)(j:Option Addr)(c:Nat) :
 (Builtin.append_ #[t,t] ty #[.slice base n cap,.slice j 0 c]).run P w= .ok (.slice base n cap) w:=by
 cases base<;>cases j<;>simp[Builtin.append_,run_underlying H,Go.sizeOf,typeInfo,D,Builtin.lenOf,Builtin.firstCells,G,loadCells,loadCellsFrom,storeCells]
def CW(hT:bC cx)(hs:bS cx E st σ a w){t e ty:TypeId}{G:TI}(kh:cD cx t=some (e,G))(hQ:1<=G.size){x:AV}{aU:List<|List D}(hx:qX st x=some (G.size,aU)){u v:Value}(hr:aC w E.O (live st.heap) σ x u)
 {n:Nat} {xs:List Value} (H:w.ownsRow 0 e G.size v n xs) (kN:n+aU.length<=maxLen) (X:(n+aU.length)*G.bytes<=140737488355328) :
 ∃v' w' W,(Builtin.append_ #[t,t] ty #[v,u]).run cx.P w= .ok v' w' /\w'.ownsRow 0 e G.size v' (n+aU.length) (xs++W)/\w.grownBy w' v.ownBlock/\(∀g,home v' =some g->home v=some g\/w.heap.size<=g) /\
  (∀r∈aU,r.length=G.size/\ ∀d∈r,d.one=true)/\ ∀i r j d,aU[i]? =some r->r[j]? =some d-> ∃z,W[i*G.size+j]? =some z/\Rep w (Own E.O (live st.heap) σ) d z:=by
 obtain⟨ti,ht,xc,kT⟩:=cE kh;obtain⟨_,_,_,_,t2,t3,_⟩:=hT _ _ ht;rw[xc]at t3;obtain rfl:=cd t3;obtain⟨J,desc,zv,i1,i2,i3,i4,i5,i6,i7,i8,i9,i10⟩:=hT _ _ kT;obtain⟨ad,c,rfl,p1,p2⟩:=Ge hs hx hr;by_cases Y:aU=[]
 .subst Y;have hv:∃base cap,v= .slice base n cap/\n<=cap:=by
   rcases H.2 with ⟨rfl,rfl⟩|⟨g,cap,cur,rfl,_,_,h,_⟩
   .exact⟨none,0,rfl,Nat.le_refl _⟩
   .exact⟨_,cap,rfl,h⟩
  obtain⟨base,cap,rfl,ya⟩:=hv;refine⟨_,w,[],pz cx.P w t2 i1 ya ad c,by simpa using H,⟨rfl,rfl,rfl,Nat.le_refl _,λ_ _ _=>rfl⟩,λg hg=> .inl hg,p1,λi r j d hi=>by simp at hi⟩
 .obtain⟨B,off,rfl,p3⟩:=p2 Y
  let f:Nat->Value:=λq=>(w.cell? ⟨B,off+q,none⟩).getD Go.undef
  have hq:∀q,q<aU.length*G.size-> ∃r d,aU[q / G.size]? =some r/\r[q % G.size]? =some d/\d.one=true:=λq hq=>by
   have h1:q / G.size<aU.length:=Nat.div_lt_of_lt_mul (by rw[Nat.mul_comm];exact hq);have h2:=ao h1;have h3:=p1 _<|List.getElem_mem h1;have h4:q % G.size<(aU[q / G.size]).length:=by rw[h3.1];exact Nat.mod_lt _ hQ
   exact⟨_,_,h2,ao h4,h3.2 _<|List.getElem_mem h4⟩
  have yx:∀q,q / G.size*G.size+q % G.size=q:=λq=>by rw[Nat.mul_comm];exact Nat.div_add_mod q G.size
  have N:∀q,q<aU.length*G.size->w.cell? ⟨B,off+q,none⟩=some (f q)/\(f q).oneCell' =true:=λq K=>by
   obtain⟨r,d,h1,h2,h3⟩:=hq q K;obtain⟨z,hz,hd⟩:=p3 _ r _ d h1 h2;rw[yx]at hz;have:f q=z:=by simp[f,hz]
   rw[this];exact⟨hz,hd.ky h3⟩
  have T:((List.range<|aU.length*G.size).map f).length=aU.length*G.size:=by simp
  have I:∀j u,((List.range<|aU.length*G.size).map f)[j]? =some u->w.cell? ((⟨B,off,none⟩:Addr).add j)=some u:=λj u hj=>by
   have K:j<aU.length*G.size:=by have:=(aA.1 hj).1;simpa using this
   rw[dx];have:f j=u:=by simpa [K] using hj
   rw[<- this];exact(N j K).1
  have V:∀u∈(List.range<|aU.length*G.size).map f,u.oneCell' =true:=λu hu=>by
   obtain⟨q,hq,rfl⟩:=List.mem_map.1 hu;exact(N q<|by simpa using hq).2
  obtain⟨v',w',Z,r2,r3,_⟩:=run_append_own (P:=cx.P) w 0 t ty e J zv G.size G.bytes t2 i1 i6 i4 i5 (by rw[i7, <- i8]) hQ v n xs H ⟨B,off,none⟩ aU.length c _ T I V kN X<|Nat.zero_le _;have kE:0<aU.length:=List.length_pos_iff.2 Y;refine⟨v',w',_,Z,r2,r3,λg hg=>?_,p1,λi r j d hi hj=>?_⟩
  .have xd:n+aU.length<=9223372036854775807:=by simpa [maxLen] using kN
   rcases H.2 with ⟨rfl,rfl⟩|⟨g0,cap,cur,rfl,_,xB,ya,_,kQ,_⟩
   .have:=run_append_nil (P:=cx.P) w t ty e J zv t2 i1 i6 ⟨B,off,none⟩ aU.length c _ (by rw[i4];exact T) I kE (by omega) (by rw[i5];rw[Nat.zero_add]at X;omega);rw[this]at Z;cases Z;cases hg;exact .inr<|Nat.le_refl _
   .by_cases U:n+aU.length<=cap
    .have:=run_append_room (P:=cx.P) w t ty e J t2 i1 g0 n cap cur xB ⟨B,off,none⟩ aU.length c _ (by rw[i4];exact T) I V U (by rw[T,kQ,i4, <- Nat.add_mul];exact Nat.mul_le_mul_right _ U);rw[this]at Z;cases Z;exact .inl hg
    .have:=run_append_grow (P:=cx.P) w t ty e J zv t2 i1 i6 ⟨g0,0,none⟩ n cap xs (by rw[i4];exact H.1) (H.cells (g:=g0) rfl) ⟨B,off,none⟩ aU.length c _ (by rw[i4];exact T) I (by omega) (by omega) (by rw[i5];exact growslice_fits (by omega) X);rw[this]at Z;cases Z;cases hg;exact .inr<|Nat.le_refl _
  .obtain⟨z,hz,hd⟩:=p3 i r j d hi hj;have K:i*G.size+j<aU.length*G.size:=by
    have h1:=(aA.1 hi).1;have h2:=(aA.1 hj).1;rw[(p1 r<|aw hi).1]at h2;have:(i+1)*G.size<=aU.length*G.size:=Nat.mul_le_mul_right _ h1;rw[Nat.add_mul]at this;omega
   refine⟨z,?_,hd⟩;have:f (i*G.size+j)=z:=by simp[f,hz]
   simp[K,this]
def Fe(cx:Cx)(st:St)(d:Option Nat)(t:TypeId)(s x:AV)(k:AV->List (Nat×AV)->List (Nat×Blk)->Prop):Prop :=
 match cD cx t with
 |some (e,j)=>(match Nat.ble 1 j.size,qX st x with
  |true,some (sz,aU)=>(match Nat.beq sz j.size with
   |true=>(match s with
    | .own s=>(match find st.heap s with
     |some (.row e' xj rows _)=>(match Nat.beq e e',Nat.beq j.size xj with
      |true,true=>rows.length+aU.length<=9223372036854775807/\(rows.length+aU.length)*j.bytes<=140737488355328/\k (.own s) (jo s st.aY) ((s,.row e' xj<|rows++aU)::fG s st.heap)
      |_,_=>False)
     |_=>False)
    | .nil _=>(match d with
     |some d=>(match find st.heap d with
      |none=>aU.length<=9223372036854775807/\aU.length*j.bytes<=140737488355328/\k (.own d) st.aY ((d,.row e j.size aU)::st.heap)
      |some _=>False)
     |none=>False)
    |_=>False)
   |false=>False)
  |_,_=>False)
 |none=>False
def oR{w w' :World}{O O' :Nat->Prop}{size:Nat}{rows aU:List<|List D}{xs G:List Value}(U:xs.length=rows.length*size)(T:bx w w' O O')
 (h1:∀i r j d,rows[i]? =some r->r[j]? =some d-> ∃u,xs[i*size+j]? =some u/\Rep w O d u) (V:∀i r j d,aU[i]? =some r->r[j]? =some d-> ∃u,G[i*size+j]? =some u/\Rep w O d u)
 (i:Nat) (r:List D) (j:Nat) (d:D) (I:(rows++aU)[i]? =some r) (N:r[j]? =some d):∃u,(xs++G)[i*size+j]? =some u/\Rep w' O' d u:=by
 by_cases K:i<rows.length
 .rw[dm K]at I;obtain⟨u,H,J⟩:=h1 i r j d I N;refine⟨u,?_,J.mono T⟩;rw[dm (aA.1 H).1];exact H
 .rw[cL<|by omega]at I;obtain⟨u,H,J⟩:=V _ r j d I N;refine⟨u,?_,J.mono T⟩;obtain⟨q,rfl⟩:∃q,i=rows.length+q:=⟨i-rows.length,by omega⟩
  rw[cL<|by rw[U,Nat.add_mul];omega,U,Nat.add_mul];rw[show rows.length*size+q*size+j-rows.length*size=q*size+j by omega];rw[show rows.length+q-rows.length=q by omega]at H;exact H
def SP(hT:bC cx){o:Oper}{s x:Operand}{t:TypeId}(ho:o.op= .call {callee:= .builtin .append,args:= #[s,x],argTypes:= #[t,t]}){k:AV->List (Nat×AV)->List (Nat×Blk)->Prop}
 (h:Fe cx st o.dst t (st.ev cx s) (kO cx t<|st.ev cx x) k):∃v sl hp,lW cx o st ⟨bW sl o.dst v,hp⟩/\k v sl hp:=by
 have T:∀(a:Act) (w:World) {z:Value} {w' :World},(Builtin.append_ #[t,t] o.type #[a.eval s,a.eval x]).run cx.P w= .ok z w' ->(execOp a.eval o).run cx.P w= .ok (.value z) w' :=λa w z w' hh=>by
  simp[execOp,ho,resolve,invoke,builtin,hh]
 unfold Fe at h;split at h
 .rename_i e Z kh;split at h
  .rename_i sz aU W xh;have W:1<=Z.size:=bA W;split at h
   .rename_i xR;obtain rfl:sz=Z.size:=bg xR;split at h
    .rename_i D xO;split at h
     .rename_i e' xj rows yW hf;split at h
      .rename_i c1 c2;obtain rfl:e=e' :=bg c1;obtain rfl:Z.size=xj :=bg c2;obtain⟨b1,b2,hk⟩:=h;refine⟨_,_,_,λE a w Q hd ⟨σ,J⟩=>?_,hk⟩;have I:=J.ev (St.le.refl st) s;rw[xO]at I;have xN:=kP (cx:=cx) (t:=t)<|J.ev (St.le.refl st) x;obtain⟨xs,o1,o2,o3,o4,o5⟩:=J.holds.blk D _ hf;have G:live st.heap D:=aH.2 ⟨_,hf⟩;obtain⟨v',w',X,r1,r2,r3,r4,r5,r6⟩:=CW (ty:=o.type) hT J kh W xh xN o1 (by simpa [maxLen] using b1) b2;have V :a.eval s=σ D:=by generalize a.eval s=u at I;cases I;rfl
       rw[<- V]at r1;simp only[Oper.wp,T a w r1,Oper.upon];refine J.LI (τ:=v') hd G (λaa e=>by rcases o1.2 with ⟨e',_⟩|⟨_,_,_,e',_⟩<;>(rw[e']at e;cases e)) r3.os r3.tape r3.output r3.size (λq hq kJ=>r3.block q hq λe=>kJ ?_) r4 (λσ' Y H=>?_) λσ' Y=>?_
       .have:(σ D).ownBlock=some q:=e.symm;generalize σ D=z at this ⊢;cases z<;>simp[Value.ownBlock]at this;rename_i aa _ _;cases aa<;>simp[Value.ownBlock]at this;simp[home,this]
       .refine⟨xs++X,by rw[Y,List.length_append];exact r2,λb K=>?_,⟨o3.1,λe=>by cases e⟩,λr hr=>?_,oR (by rw[o1.1]) H o5 r6⟩
        .rw[Y]at K;rcases r4 b K with K|K
         .exact o2 b K
         .exact J.new b<|Nat.le_trans J.frame.size K
        .rcases List.mem_append.1 hr with hr|hr
         .exact o4 r hr
         .exact r5 r hr
       .have:=aC.own (w:=w') (O:=E.O) (σ:=σ') D G;rw[Y]at this;exact this
      .exact h.elim
     .exact h.elim
    .rename_i z0 xO;split at h
     .rename_i d yX;split at h
      .rename_i hf;obtain⟨b1,b2,hk⟩:=h;refine⟨_,_,_,λE a w Q hd ⟨σ,J⟩=>?_,hk⟩;have I:=J.ev (St.le.refl st) s;rw[xO]at I;have xN:=kP (cx:=cx) (t:=t)<|J.ev (St.le.refl st) x;have V :a.eval s= .slice none 0 0:=by generalize a.eval s=u at I;cases I;rfl
       obtain⟨v',w',X,r1,r2,r3,r4,r5,r6⟩:=CW (ty:=o.type) hT J kh W xh xN (World.ownsRow_nil w 0 e Z.size) (by simpa [maxLen] using b1) (by simpa using b2);rw[<- V]at r1;simp only[Oper.wp,T a w r1,Oper.upon];have hn:¬live st.heap d:=by unfold live;rw[hf];simp
       let σ' :Nat->Value:=λx=>if x=d then v' else σ x
       have Y:σ' d=v' :=if_pos rfl;have e2:∀x,live st.heap x->σ' x=σ x:=λx G=>if_neg λ(e:x=d)=>hn<|e ▸ G
       have N:Below w.heap.size w w' :=sJ r3;have U:∀g,home v' =some g->w.heap.size<=g:=λg hg=>by
        rcases r4 g hg with h|h
        .cases h
        .exact h
       have H:bx w w' (Own E.O (live st.heap) σ)<|Own E.O (live<|[(d,Blk.row e Z.size aU)]++st.heap) σ':=by
        refine⟨N.size,λx _ hx=>N.block x hx,λx yc hx ho=>?_⟩;rcases ho with ho|⟨y,G,e⟩
        .exact yc<|.inl ho
        .rcases cP.1 G with G|G
         .rw[cN.1 G,Y]at e;have:=U x e;omega
         .rw[e2 y G]at e;exact yc<|.inr ⟨y,G,e⟩
       have yD:live ([(d,Blk.row e Z.size aU)]++st.heap) d:=cP.2<|.inl<|cN.2 rfl;have xl:∀q0 B,E.fix q0=some B-> ¬live [(d,Blk.row e Z.size aU)] q0:=λq0 B hB G=>by
        have h1:=(J.fix q0 B hB).1;have h2:d<E.nt:=hd d (by assumption);have h3:q0=d:=cN.1 G;omega
       refine⟨σ',J.grow (bs:=[(d,Blk.row e Z.size aU)]) (v:= .own d) hd e2 N xl (λx g G e=>?_) (λx y g G kC _ _=>(cN.1 G).trans (cN.1 kC).symm) (λx b K=>?_) ?_⟩
       .rw[cN.1 G,Y]at e;exact U g e
       .have G:=cN.1<|aH.2 ⟨b,K⟩;subst G;rw[bo]at K;cases K;refine⟨X,by rw[Y];simpa using r2,λb K=>?_,⟨W,λe=>by cases e⟩,r5,λi r j d hi hj=>?_⟩
        .rw[Y]at K;exact J.new b<|Nat.le_trans J.frame.size<|U b K
        .obtain⟨u,hu,hd⟩:=r6 i r j d hi hj;exact⟨u,hu,hd.mono H⟩
       .have:=aC.own (w:=w') (O:=E.O) (σ:=σ') d yD;rw[Y]at this;exact this
      .exact h.elim
     .exact h.elim
    .exact h.elim
   .exact h.elim
  .exact h.elim
 .exact h.elim
end

section
variable {cx:Cx} {st:St} {E:Env} {σ:Nat->Value} {a:Act} {w:World}
def amV:AV->Bool
 | .own _=>true
 | .d _=>true
 | .nil _=>true
 |_=>false
def AI(cx:Cx)(st:St)(t:TypeId)(m key v:AV)(k:List (Nat×Blk)->Prop):Prop :=
 match m,key,cx.ty t with
 | .omap s,.agg cs,some ⟨_,_,.map G _,_⟩=>(match find st.heap s,cB fw cs,cx.eqT G,ju v with
  |some (.cS D),some kc,some I,some x=>(match jc I kc with
   |true=> ∃j,AG I kc x D=some j /\k ((s,.cS j)::st.heap)
   |false=>False)
  |_,_,_,_=>False)
 | .omap s,.d (.int H n),some ⟨_,_,.map G _,_⟩=>(match find st.heap s,IF cx G<|.int H n,ju v with
  |some (.cS D),true,some x=> ∃j,AW (.int H n) x D=some j /\k ((s,.cS j)::st.heap)
  |_,_,_=>False)
 | .omap s,.d (.str b),some ⟨_,_,.map G J,_⟩=>(match find st.heap s,isStr cx G with
  |some (.smap D),true=>(match ju v with
   |some x=>k<|(s,.smap<|cy b x D)::st.heap
   |none=>False)
  |some (.dR D),true=>(match amV v with
   |true=>k<|(s,.dR<|cy b v D)::st.heap
   |false=>False)
  |_,_=>False)
 |_,_,_=>False
def ov{α:Type}{b:List UInt8}{x:α}:∀{m:List<|List UInt8×α},bH b m=none->cy b x m=m++[(b,x)]
 |[],_=>rfl
 |(k,v)::t,h=>by
  simp only[bH]at h;split at h
  .cases h
  .rename_i j;simp[cy,j,ov h]
def KG(hT:bC cx){o:Oper}{t:TypeId}{m key v:Operand}(ho:o.op= .mapUpdate t m key v\/o.op= .insert t m key v){s:Nat}(hm:st.ev cx m= .omap s){sz xk :Nat}{kt et:TypeId}{zero:List AV}(ht:cx.ty t=some ⟨sz,xk,.map kt et,zero⟩)
 {mm U :List<|List D×D} (hf:find st.heap s=some (.cS mm)) {eq:List D->Option Bool} {kc:List D} {x:D} (I:mT eq kc x mm=some U) (Y:ju (st.ev cx v)=some x)
 (xI:∀(E:Env) σ a w,bS cx E st σ a w->oK cx.P kt kc eq (a.eval key)):lW cx o st ⟨bW st.aY o.dst<|.tuple [],(s,.cS U)::st.heap⟩:=by
 intro E a w Q hd ⟨σ,hs⟩;obtain⟨_,_,_,_,t2,t3,_⟩:=hT _ _ ht;have t3:=kK t3;subst t3;have hY:=hs.ev (St.le.refl st) m;rw[hm]at hY;have hS:=kG Y<|hs.ev (St.le.refl st) v;obtain⟨g,es,H,e1,e2,e3,⟨e4,e6⟩,e5⟩:=hs.holds.blk s _ hf;have hl:live st.heap s:=aH.2 ⟨_,hf⟩;have xe:a.eval m= .map (some g):=by generalize a.eval m=u at hY;cases hY;exact e1
 have hk:=xI E σ a w hs;have V:=hk.chk false w;have W:(getObj g).run cx.P w= .ok (.map es H) w:=MapKept.run_getObj_map e3;have X:∀ob,(setObj g ob).run cx.P w= .ok () {w with heap:=w.heap.setIfInBounds g ob}:=λob=>MapKept.run_setObj_map ob e3
 have hD:g<w.heap.size:=(bP.1 e3).1;have ko:∀{w:World} {O L:Nat->Prop} {σ:Nat->Value},aC w O L σ (.tuple []) Go.undef:= .tuple [] #[] rfl λj c N=>by simp at N
 obtain⟨r,hr⟩:=zG I;have K:∀{w'},(Instr.mapUpdate t (.map<|some g) (a.eval key)<|a.eval v).run cx.P w= .ok () w' ->(execOp a.eval o).run cx.P w= .ok .skip w' :=λhh=>by
  rcases ho with ho|ho<;>simp[execOp,ho,xe,hh]
 have fin : ∀ (T : Array MapEntry) (G : Nat), (execOp a.eval o).run cx.P w = .ok .skip { w with heap := w.heap.setIfInBounds g (.map T G) } ->
     wU (Rep w<|Own E.O (live st.heap) σ) U T G ->
     o.wp cx.P a w (λa' w' =>Sim cx E ⟨bW st.aY o.dst<|.tuple [],(s,.cS U)::st.heap⟩ a' w') Q:=by
  intro T G hA xJ;simp only[Oper.wp,hA,Oper.upon];refine⟨σ,hs.write hd hl (by rw[e1];rfl) rfl rfl rfl (by simp) (λq hq=>by simp[Ne.symm hq]) (λhk=>?_) λ_=>ko⟩;exact⟨g,T,G,e1,e2,by simp[hD],xJ.mono λ_ _ h=>h.mono hk⟩
 rcases hk.find w _ mm es.toList r (by simpa using e4) (λj k v N=>by
  obtain⟨e,he,q⟩:=e5 j k v N;exact⟨e,by rw[bE];exact he,q⟩) hr with ⟨rfl,g2⟩|⟨j,k',v',e,rfl,g1,g3,g2,g4,g5,g6⟩
 .rw[uW hr]at I;cases I;refine fin (es.push ⟨a.eval key,a.eval v,H⟩) (H+1) (K ?_) ⟨⟨by simp[e4],vW e6 _ _⟩,λj k v' N=>?_⟩
  .simp[Instr.mapUpdate,run_underlying t2,W,V,g2,X]
  .by_cases hD:j<mm.length
   .rw[dm hD]at N;obtain⟨e,he,r⟩:=e5 j k v' N;refine⟨e,?_,r⟩;rw[Array.getElem?_push,if_neg<|by omega];exact he
   .have:j=mm.length:=by have:=(aA.1 N).1;simp at this;omega
    subst this;rw[cL<|Nat.le_refl _]at N;simp at N;obtain⟨rfl,rfl⟩:=N;exact⟨⟨a.eval key,a.eval v,H⟩,by rw[<- e4];simp,hk.key,hS⟩
 .rw[g6 x]at I;cases I;have J:es[j]? =some e:=by rw[<- bE];exact g3
  have kH:j<es.size:=(bP.1 J).1;have hJ:(Instr.keyThatStays (((es[j]?).map (·.key)).getD<|a.eval key)<|a.eval key).run cx.P w= .ok (a.eval key) w:=by
   simp[Instr.keyThatStays,J,g5]
  refine fin (es.modify j λe=>{e with key:=a.eval key,val:=a.eval v}) H (K ?_) ⟨⟨by simp[e4],sC e6 _ _ λ_=>rfl⟩,λi k v' hi=>?_⟩
  .simp only[Instr.mapUpdate,Sem.run_bind,run_underlying t2,Result.andThen,W,V,g2,hJ,X]
  .rw[List.getElem?_set]at hi;rw[Array.getElem?_modify];split at hi
   .rename_i Z;subst Z
    try rw[if_pos<|by omega]at hi
    cases hi;exact⟨_,by rw[if_pos rfl,J];rfl,hk.key,hS⟩
   .rename_i Z;obtain⟨e',kS,r⟩:=e5 i k v' hi;exact⟨e',by rw[if_neg Z];exact kS,r⟩
def GW(hT:bC cx){o:Oper}{t:TypeId}{m key v:Operand}(ho:o.op= .mapUpdate t m key v\/o.op= .insert t m key v){k:List (Nat×Blk)->Prop}(h:AI cx st t (st.ev cx m) (st.ev cx key) (st.ev cx v) k) :
 ∃hp,lW cx o st ⟨bW st.aY o.dst<|.tuple [],hp⟩/\k hp:=by
 unfold AI at h;split at h
 .rename_i s cs sz xk kt et zero hm U ht
  split at h
  .rename_i V kc ks x hf yA yB T;split at h
   .rename_i kf;obtain⟨yS,Z,h⟩:=h;have heq:=cx.WC kt ks yB;rw[FE]at Z;refine⟨_,KG hT ho hm ht hf Z T λE σ a w hs=>oK.struct heq kf ?_,h⟩;have K:=hs.ev (St.le.refl st) key;rw[U]at K;generalize a.eval key=u at K;cases K with|agg _ vs hl hh =>
     obtain⟨l1,l2⟩:=cF yA;obtain⟨f1,f2⟩:=zl kf;refine .inr ⟨vs,rfl,by rw[hl,l1],λj d I=>?_⟩;obtain⟨c,hc,hd⟩:=l2 j d I;exact pP (jE hd<|hh j c hc)<|f2 d<|aw I
   .exact h.elim
  .exact h.elim
 .rename_i s ki n sz xk kt et zero hm U ht
  split at h
  .rename_i V x hf yC T;obtain⟨yS,Z,h⟩:=h;rw[FY]at Z;obtain⟨desc,yt,yu,yv⟩:=KE hT yC;refine⟨_,KG hT ho hm ht hf Z T λE σ a w hs=>oK.flat yt yu ?_,h⟩;have K:=hs.ev (St.le.refl st) key;rw[U]at K;generalize a.eval key=u at K;cases K with|d _ _ yK=>exact pP yK yv
  .exact h.elim
 .rename_i s b sz xk kt et zero hm U ht
  split at h
  .rename_i V hf kF;split at h
   .rename_i x T;refine⟨_,λE a w Q hd ⟨σ,hs⟩=>?_,h⟩;obtain⟨_,_,_,_,t2,t3,_⟩:=hT _ _ ht;have t3:=kK t3;subst t3;obtain⟨ki,kB,kI⟩:=ln kF;obtain⟨_,_,_,_,k2,k3,_⟩:=hT _ _ kB;rw[kI]at k3;obtain rfl:=ga k3;have hY:=hs.ev (St.le.refl st) m;rw[hm]at hY;have K:=hs.ev (St.le.refl st) key;rw[U]at K;have hS:=kG T<|hs.ev (St.le.refl st) v;obtain⟨H,xv,rfl⟩:=K.str;obtain⟨g,es,G,e1,e2,e3,⟨e4,e6⟩,e5⟩:=hs.holds.blk s _ hf;have hl:live st.heap s:=aH.2 ⟨_,hf⟩;have xe:a.eval m= .map (some g):=by generalize a.eval m=u at hY;cases hY;exact e1
    have W:(Instr.checkKey false 10000 kt<|.string H).run cx.P w= .ok () w:=MapKept.run_checkKey (n:=9999) k2 (by simp[MapKept.IsKey]) _;have Y:(getObj g).run cx.P w= .ok (.map es G) w:=MapKept.run_getObj_map e3;have hZ:∀ob,(setObj g ob).run cx.P w= .ok () {w with heap:=w.heap.setIfInBounds g ob}:=λob=>MapKept.run_setObj_map ob e3
    have hD:g<w.heap.size:=(bP.1 e3).1;have ko:∀{w:World} {O L:Nat->Prop} {σ:Nat->Value},aC w O L σ (.tuple []) Go.undef:= .tuple [] #[] rfl λj c I=>by simp at I
    have kv:∀(j:Nat) k v,V[j]? =some (k,v)-> ∃e,es.toList[j]? =some e/\Rep w (Own E.O (live st.heap) σ) (.str k) e.key/\Rep w (Own E.O (live st.heap) σ) v e.val:=λj k v I=>by
     obtain⟨e,he,r⟩:=e5 j k v I;exact⟨e,by rw[bE];exact he,r⟩
    have fin : ∀ (J : Array MapEntry) (D : Nat), (execOp a.eval o).run cx.P w = .ok .skip { w with heap := w.heap.setIfInBounds g (.map J D) } ->
        ((J.size=(cy H.data.toList x V).length/\my J D)/\ ∀(j:Nat) k v,(cy H.data.toList x V)[j]? =some (k,v)-> ∃e,J[j]? =some e/\Rep w (Own E.O (live st.heap) σ) (.str k) e.key/\Rep w (Own E.O (live st.heap) σ) v e.val) ->
        o.wp cx.P a w (λa' w' =>Sim cx E ⟨bW st.aY o.dst<|.tuple [],(s,.smap<|cy H.data.toList x V)::st.heap⟩ a' w') Q:=by
     intro J D hA ⟨f1,f2⟩;simp only[Oper.wp,hA,Oper.upon];refine⟨σ,hs.write hd hl (by rw[e1];rfl) rfl rfl rfl (by simp) (λq hq=>by simp[Ne.symm hq]) (λhk=>?_) λ_=>ko⟩;refine⟨g,J,D,e1,e2,by simp[hD],f1,λj k v I=>?_⟩;obtain⟨e,he,q1,q2⟩:=f2 j k v I;exact⟨e,he,q1.mono hk,q2.mono hk⟩
    have N:∀{w'},(Instr.mapUpdate t (.map<|some g) (.string H)<|a.eval v).run cx.P w= .ok () w' ->(execOp a.eval o).run cx.P w= .ok .skip w' :=λhh=>by
     rcases ho with ho|ho<;>simp[execOp,ho,xe,xv,hh]
    rcases EE (w:=w) (O:=E.O) (L:=live st.heap) (σ:=σ) H V es.toList 0 (by simpa using e4) kv with ⟨g1,g2⟩|⟨j,v0,e,g1,g2,g3,g4,g5,g6,g7⟩
    .refine fin (es.push ⟨.string H,a.eval v,G⟩) (G+1) (N ?_) ⟨?_,λj k v I=>?_⟩
     .simp[Instr.mapUpdate,run_underlying t2,Y,W,MapKept.run_findKey k2 g2,hZ]
     .rw[ov g1];exact⟨by simp[e4],vW e6 _ _⟩
     .rw[ov g1]at I;by_cases hD:j<V.length
      .rw[dm hD]at I;obtain⟨e,he,r⟩:=e5 j k v I;refine⟨e,?_,r⟩;rw[Array.getElem?_push,if_neg<|by omega];exact he
      .have:j=V.length:=by have:=(aA.1 I).1;simp at this;omega
       subst this;rw[cL<|Nat.le_refl _]at I;simp at I;obtain⟨rfl,rfl⟩:=I;exact⟨⟨.string H,a.eval _,G⟩,by rw[<- e4];simp,.str _ _ rfl,hS⟩
    .have kH:j<es.size:=by have:=(aA.1 g3).1;simpa using this
     have X:es[j]? =some e:=by rw[<- bE];exact g3
     have hJ:(Instr.keyThatStays (((es[j]?).map (·.key)).getD<|.string H)<|.string H).run cx.P w= .ok (.string H) w:=by
      have:Instr.sameBits 10000 (.string H) (.string H)=true:=(MapKept.bytes_beq H H).2 rfl;simp[Instr.keyThatStays,X,g6,this]
     refine fin (es.modify j λe=>{e with key:= .string H,val:=a.eval v}) G (N ?_) ⟨?_,λi k v' hi=>?_⟩
     .have xp :Instr.findNow .string (.string H) es.toList 0=some (some (j,e.val)):=by rw[g2];simp
      simp only[Instr.mapUpdate,Sem.run_bind,run_underlying t2,Result.andThen,Y,W,MapKept.run_findKey k2 xp,hJ,hZ]
     .rw[g7];exact⟨by simp[e4],sC e6 _ _ λ_=>rfl⟩
     .rw[g7,List.getElem?_set]at hi;rw[Array.getElem?_modify];split at hi
      .rename_i kz;subst kz;have xG:j<V.length:=by omega
       try rw[if_pos xG]at hi
       cases hi;exact⟨_,by rw[if_pos rfl,X];rfl,.str _ _ rfl,hS⟩
      .rename_i kz;obtain⟨e',kS,r⟩:=e5 i k v' hi;exact⟨e',by rw[if_neg kz];exact kS,r⟩
   .exact h.elim
  .rename_i V hf kF;split at h
   .rename_i kM;obtain⟨av,xU⟩:∃av,av=st.ev cx v:=⟨_,rfl⟩
    rw[<- xU]at h;refine⟨_,λE a w Q hd ⟨σ,hs⟩=>?_,h⟩;obtain⟨_,_,_,_,t2,t3,_⟩:=hT _ _ ht;have t3:=kK t3;subst t3;obtain⟨ki,kB,kI⟩:=ln kF;obtain⟨_,_,_,_,k2,k3,_⟩:=hT _ _ kB;rw[kI]at k3;obtain rfl:=ga k3;have hY:=hs.ev (St.le.refl st) m;rw[hm]at hY;have K:=hs.ev (St.le.refl st) key;rw[U]at K;have hS:=hs.ev (St.le.refl st) v;rw[<- xU]at hS;obtain⟨H,xv,rfl⟩:=K.str;obtain⟨g,es,G,e1,e2,e3,⟨e4,e6⟩,e5⟩:=hs.holds.blk s _ hf;have hl:live st.heap s:=aH.2 ⟨_,hf⟩;have xe:a.eval m= .map (some g):=by generalize a.eval m=u at hY;cases hY;exact e1
    have W:(Instr.checkKey false 10000 kt<|.string H).run cx.P w= .ok () w:=MapKept.run_checkKey (n:=9999) k2 (by simp[MapKept.IsKey]) _;have Y:(getObj g).run cx.P w= .ok (.map es G) w:=MapKept.run_getObj_map e3;have hZ:∀ob,(setObj g ob).run cx.P w= .ok () {w with heap:=w.heap.setIfInBounds g ob}:=λob=>MapKept.run_setObj_map ob e3
    have hD:g<w.heap.size:=(bP.1 e3).1;have ko:∀{w:World} {O L:Nat->Prop} {σ:Nat->Value},aC w O L σ (.tuple []) Go.undef:= .tuple [] #[] rfl λj c I=>by simp at I
    have kv:∀(j:Nat) k v,V[j]? =some (k,v)-> ∃e,es.toList[j]? =some e/\fq (.str k) e.key/\aC w E.O (live st.heap) σ v e.val:=λj k v I=>by
     obtain⟨e,he,r⟩:=e5 j k v I;exact⟨e,by rw[bE];exact he,r⟩
    have fin : ∀ (J : Array MapEntry) (D : Nat), (execOp a.eval o).run cx.P w = .ok .skip { w with heap := w.heap.setIfInBounds g (.map J D) } ->
        ((J.size=(cy H.data.toList av V).length/\my J D)/\ ∀(j:Nat) k v,(cy H.data.toList av V)[j]? =some (k,v)-> ∃e,J[j]? =some e/\fq (.str k) e.key/\aC w E.O (live st.heap) σ v e.val) ->
        o.wp cx.P a w (λa' w' =>Sim cx E ⟨bW st.aY o.dst<|.tuple [],(s,.dR<|cy H.data.toList av V)::st.heap⟩ a' w') Q:=by
     intro J D hA ⟨f1,f2⟩;simp only[Oper.wp,hA,Oper.upon];refine⟨σ,hs.write hd hl (by rw[e1];rfl) rfl rfl rfl (by simp) (λq hq=>by simp[Ne.symm hq]) (λhk=>?_) λ_=>ko⟩;refine⟨g,J,D,e1,e2,by simp[hD],f1,λj k v I=>?_⟩;obtain⟨e,he,q1,q2⟩:=f2 j k v I;exact⟨e,he,q1,q2.mono hk λy hy=>⟨hy,rfl⟩⟩
    have N:∀{w'},(Instr.mapUpdate t (.map<|some g) (.string H)<|a.eval v).run cx.P w= .ok () w' ->(execOp a.eval o).run cx.P w= .ok .skip w' :=λhh=>by
     rcases ho with ho|ho<;>simp[execOp,ho,xe,xv,hh]
    rcases CV (R:=aC w E.O (live st.heap) σ) H V es.toList 0 (by simpa using e4) kv with ⟨g1,g2⟩|⟨j,v0,e,g1,g2,g3,g4,g5,g6,g7⟩
    .refine fin (es.push ⟨.string H,a.eval v,G⟩) (G+1) (N ?_) ⟨?_,λj k v I=>?_⟩
     .simp[Instr.mapUpdate,run_underlying t2,Y,W,MapKept.run_findKey k2 g2,hZ]
     .rw[ov g1];exact⟨by simp[e4],vW e6 _ _⟩
     .rw[ov g1]at I;by_cases hD:j<V.length
      .rw[dm hD]at I;obtain⟨e,he,r⟩:=e5 j k v I;refine⟨e,?_,r⟩;rw[Array.getElem?_push,if_neg<|by omega];exact he
      .have:j=V.length:=by have:=(aA.1 I).1;simp at this;omega
       subst this;rw[cL<|Nat.le_refl _]at I;simp at I;obtain⟨rfl,rfl⟩:=I;exact⟨⟨.string H,a.eval _,G⟩,by rw[<- e4];simp,⟨_,rfl,rfl⟩,hS⟩
    .have kH:j<es.size:=by have:=(aA.1 g3).1;simpa using this
     have X:es[j]? =some e:=by rw[<- bE];exact g3
     have hJ:(Instr.keyThatStays (((es[j]?).map (·.key)).getD<|.string H)<|.string H).run cx.P w= .ok (.string H) w:=by
      have:Instr.sameBits 10000 (.string H) (.string H)=true:=(MapKept.bytes_beq H H).2 rfl;simp[Instr.keyThatStays,X,g6,this]
     refine fin (es.modify j λe=>{e with key:= .string H,val:=a.eval v}) G (N ?_) ⟨?_,λi k v' hi=>?_⟩
     .have xp :Instr.findNow .string (.string H) es.toList 0=some (some (j,e.val)):=by rw[g2];simp
      simp only[Instr.mapUpdate,Sem.run_bind,run_underlying t2,Result.andThen,Y,W,MapKept.run_findKey k2 xp,hJ,hZ]
     .rw[g7];exact⟨by simp[e4],sC e6 _ _ λ_=>rfl⟩
     .rw[g7,List.getElem?_set]at hi;rw[Array.getElem?_modify];split at hi
      .rename_i kz;subst kz;have xG:j<V.length:=by omega
       try rw[if_pos xG]at hi
       cases hi;exact⟨_,by rw[if_pos rfl,X];rfl,⟨_,rfl,rfl⟩,hS⟩
      .rename_i kz;obtain⟨e',kS,r⟩:=e5 i k v' hi;exact⟨e',by rw[if_neg kz];exact kS,r⟩
   .exact h.elim
  .exact h.elim
 .exact h.elim
end
def kj(s:Nat):List (Nat×Blk)->List (Nat×Blk)
 |[]=>[]
 |(k,b)::t=>(match Nat.beq k s with|true=>kj s t|false=>(k,b)::kj s t)
def sN{s x:Nat}:∀{h:List<|Nat×Blk},find (kj s h) x=if x=s then none else find h x
 |[]=>by simp[kj,find]
 |(k,b)::t=>by
  simp only[kj];by_cases e:k=s
  .subst e;simp only[show Nat.beq k k=true by simp];rw[sN (h:=t)];by_cases j:x=k
   .rw[if_pos j,if_pos j]
   .rw[if_neg j,if_neg j,bp _ _<|Ne.symm j]
  .have D:Nat.beq k s=false:=by rw[<- Bool.not_eq_true];exact λh=>e<|bg h
   simp only[D];by_cases j:k=x
   .subst j;rw[bo,if_neg e,bo]
   .rw[bp _ _ j,bp _ _ j,sN (h:=t)]
def jv(s:Nat)(x:D):AV->AV
 | .own j =>(match Nat.beq s j with|true=> .d x|false=> .own j)
 | .dy j a b c=>(match Nat.beq s j with|true=> .undef|false=> .dy j a b c)
 | .tl j a b=>(match Nat.beq s j with|true=> .undef|false=> .tl j a b)
 | .ptr j o=>(match Nat.beq s j with|true=>(match o with|0=> .d x|_+1=> .undef)|false=> .ptr j o)
 | .omap j =>(match Nat.beq s j with|true=> .d x|false=> .omap j)
 | .d y=> .d y
 | .nil z=> .nil z
 | .maybe p=> .maybe p
 |_=> .undef
def Fy(s:Nat)(x:D):AV->AV
 | .agg cs=> .agg<|cs.map<|jv s x
 | .fn f a b=> .fn f (a.map<|jv s x)<|b.map<|jv s x
 |v=>jv s x v
def frz(s:Nat)(x:D):AV->AV
 | .tuple vs=> .tuple<|vs.map<|Fy s x
 |v=>Fy s x v
def qO(s:Nat)(x:D):Blk->Blk
 | .box cells=> .box<|cells.map<|jv s x
 | .fb e z rows=> .fb e z (rows.map λr=>r.map<|Fy s x)
 | .dR m=> .dR (m.map λp=>(p.1,jv s x p.2))
 |b=>b
def St.freeze(st:St)(s:Nat):St :=
 match find st.heap s with
 |some (.row _ sz rows _)=>⟨st.aY.map λp=>(p.1,frz s (.slice sz rows) p.2),(kj s st.heap).map λp=>(p.1,qO s (.slice sz rows) p.2)⟩
 |some (.cS m)=>⟨st.aY.map λp=>(p.1,frz s (.cS m) p.2),(kj s st.heap).map λp=>(p.1,qO s (.cS m) p.2)⟩
 |some (.smap m)=>⟨st.aY.map λp=>(p.1,frz s (.cS<|m.map Ga) p.2),(kj s st.heap).map λp=>(p.1,qO s (.cS<|m.map Ga) p.2)⟩
 |some (.box cells)=>(match cB fw cells with|some ds=>⟨st.aY.map λp=>(p.1,frz s (.ptr ds) p.2),(kj s st.heap).map λp=>(p.1,qO s (.ptr ds) p.2)⟩|none=>st)
 |_=>st
def St.cC(st:St):List Nat->St
 |[]=>st
 |s::t=>(st.freeze s).cC t
section
variable {w:World} {O L:Nat->Prop} {σ:Nat->Value} {s:Nat} {x:D}
def gS:bx w w (Own O L σ)<|Own O (λy=>L y/\y≠s) σ:=bx.less λb j=>by
 rcases j with j|⟨y,⟨hy,_⟩,e⟩
 .exact .inl j
 .exact .inr ⟨y,hy,e⟩
def qN(G:Rep w (Own O (λy=>L y/\y≠s) σ) x<|σ s){c:AV}{v:Value}(h:aC w O L σ c v):aC w O (λy=>L y/\y≠s) σ (jv s x c) v:=by
 cases h with
 |undef=>exact .undef _
 |d y v h=>exact .d _ _<|h.mono gS
 |nil=>exact .nil _
 |maybe p b h=>exact .maybe p b h
 |ptr D off b j h =>
  simp only[jv];split
  .rename_i e;obtain rfl:s=D :=bg e;cases off with
   |zero=>rw[h]at G;exact .d _ _ G
   |succ=>exact .undef _
  .rename_i e;exact .ptr _ _ b ⟨j,vR e⟩ h
 |own D j =>
  simp only[jv];split
  .rename_i e;obtain rfl:s=D :=bg e;exact .d _ _ G
  .rename_i e;exact .own _ ⟨j,vR e⟩
 |dy D size i off b n cap H j h=>simp only[jv];split;exact .undef _;rename_i e;exact .dy _ _ _ _ b n cap H ⟨j,vR e⟩ h
 |tl D size i b n cap H j h=>simp only[jv];split;exact .undef _;rename_i e;exact .tl _ _ _ b n cap H ⟨j,vR e⟩ h
 |omap D j =>
  simp only[jv];split
  .rename_i e;obtain rfl:s=D :=bg e;exact .d _ _ G
  .rename_i e;exact .omap _ ⟨j,vR e⟩
 |agg=>exact .undef _
 |tuple=>exact .undef _
 |fn=>exact .undef _
def gQ{f:AV->AV}{cs:List AV}{vs:Array Value}{R R' :AV->Value->Prop}(H:∀c v,R c v->R' (f c) v)(h:∀j c,cs[j]? =some c->R c (vs.getD j Go.undef))(j:Nat)(c:AV)(D:(cs.map f)[j]? =some c):R' c<|vs.getD j Go.undef:=by
 rw[bc]at D;cases G:cs[j]? with
 |none=>rw[G]at D;cases D
 |some y=>rw[G]at D;cases D;exact H _ _<|h j y G
def Cq(j:Rep w (Own O (λy=>L y/\y≠s) σ) x<|σ s){c:AV}{v:Value}(h:aC w O L σ c v):aC w O (λy=>L y/\y≠s) σ (Fy s x c) v:=by
 cases c with
 |agg cs=>cases h with|agg _ vs D I=>exact .agg _ _ (by simpa using D)<|gQ (λc v=>qN j) I
 |fn f a b=>cases h with|fn _ _ _ xs vs G D h1 H=>exact .fn _ _ _ _ _ (by simpa using G) (by simpa using D) (gQ (λc v=>qN j) h1)<|gQ (λc v=>qN j) H
 |_=>exact qN j h
def ZN(j:Rep w (Own O (λy=>L y/\y≠s) σ) x<|σ s){c:AV}{v:Value}(h:aC w O L σ c v):aC w O (λy=>L y/\y≠s) σ (frz s x c) v:=by
 cases c with
 |tuple vs=>cases h with|tuple _ us G D=>exact .tuple _ _ (by simpa using G)<|gQ (λc v=>Cq j) D
 |_=>exact Cq j h
def Kl(h1:x.one=true){c:AV}(h:c.one=true\/c= .undef):(jv s x c).one=true\/jv s x c= .undef:=by
 rcases h with h|rfl
 .cases c<;>simp only[jv]<;>first|exact .inl h|exact .inr rfl|exact .inr trivial|(split<;>first|exact .inr rfl|exact .inl rfl|exact .inl h1|(split<;>first|exact .inr rfl|exact .inl h1))
 .exact .inr rfl
def WR(h1:x.one=true){c:AV}(h:c.one=true\/c= .undef):(Fy s x c).one=true\/Fy s x c= .undef:=by
 cases c with
 |agg=>rcases h with h|h<;>cases h
 |tuple=>rcases h with h|h<;>cases h
 |fn=>exact .inl rfl
 |_=>exact Kl (s:=s) h1 h
end
variable {cx:Cx}{E:Env}{st:St}{σ:Nat->Value}{a:Act}{w:World}{s:Nat}
def bS.frz{x:D}(K:bS cx E st σ a w)(hl:live st.heap s)(h1:x.one=true)(hx:Rep w (Own E.O (λy=>live st.heap y/\y≠s) σ) x<|σ s) :
 bS cx E ⟨st.aY.map λp=>(p.1,NQ.frz s x p.2),(kj s st.heap).map λp=>(p.1,qO s x p.2)⟩ σ a w:=by
 have I:live ((kj s st.heap).map λp=>(p.1,qO s x p.2))=λy=>live st.heap y/\y≠s:=funext λy=>by
  unfold live;rw[nv,sN];by_cases e:y=s
  .simp[e]
  .rw[if_neg e];cases find st.heap y<;>simp[e]
 refine⟨K.frame,K.new,K.apart,K.defers,K.nt,λt=>?_,⟨λy b hb=>?_,λy y' b ly yR =>?_⟩,K.gR,K.ee,λq0 B hB=>⟨(K.fix q0 B hB).1,λh=>(K.fix q0 B hB).2<|by have h' :live ((kj s st.heap).map λp=>(p.1,qO s x p.2)) q0:=h;rw[I]at h';exact h'.1⟩⟩
 .show aC w E.O (live ((kj s st.heap).map λp=>(p.1,qO s x p.2))) σ (St.get ⟨st.aY.map λp=>(p.1,NQ.frz s x p.2),_⟩ t) _
  rw[I];have hg:St.get ⟨st.aY.map λp=>(p.1,NQ.frz s x p.2),(kj s st.heap).map λp=>(p.1,qO s x p.2)⟩ t=NQ.frz s x (st.get t):=by
   simp only[St.get,nv];cases find st.aY t<;>rfl
  rw[hg];exact ZN hx<|K.aY t
 .show du w E.F E.O (live ((kj s st.heap).map λp=>(p.1,qO s x p.2))) σ y b
  rw[I];have H:find ((kj s st.heap).map λp=>(p.1,qO s x p.2)) y=some b:=hb;rw[nv,sN]at H;by_cases ey:y=s
  .rw[if_pos ey]at H;cases H
  .rw[if_neg ey]at H;cases Y:find st.heap y with
   |none=>rw[Y]at H;cases H
   |some b0 =>
    rw[Y]at H;have G:=K.holds.blk y b0 Y;cases b0 with
    |box cells =>
     cases H;obtain⟨g,cur,t,T,U,V,W,N⟩:=G;refine⟨g,cur,t,T,U,V,by simpa using W,λj c J=>?_⟩;refine⟨?_,gQ (f:=jv s x) (R:=aC w E.O (live st.heap) σ) (R' :=aC w E.O (λy=>live st.heap y/\y≠s) σ) (λc v h=>qN hx h) (λj c J=>(N j c J).2) j c J⟩;rw[bc]at J;cases hc:cells[j]? with
     |none=>rw[hc]at J;cases J
     |some z=>rw[hc]at J;cases J;exact Kl h1 (N j z hc).1
    |row e' yk X fl' =>
     cases H;obtain⟨xs,T,U,V,W,N⟩:=G;refine⟨xs,T,U,V,W,λi r j d hi J=>?_⟩;obtain⟨u,hu,hd⟩:=N i r j d hi J;exact⟨u,hu,hd.mono gS⟩
    |smap m =>
     cases H;obtain⟨g,es,Z,T,U,V,W,N⟩:=G;refine⟨g,es,Z,T,U,V,W,λj k v J=>?_⟩;obtain⟨e,he,q1,q2⟩:=N j k v J;exact⟨e,he,q1.mono gS,q2.mono gS⟩
    |cS m=>cases H;obtain⟨g,es,Z,T,U,V,W⟩:=G;exact⟨g,es,Z,T,U,V,W.mono λ_ _ h=>h.mono gS⟩
    |fb e size X =>
     cases H;obtain⟨g,cur,t,T,U,V,W,N⟩:=G;refine⟨g,cur,t,by rw[au];exact T,U,V,λr hr=>?_,λi r j c hi J=>?_⟩
     .obtain⟨r0,xL,rfl⟩:=List.mem_map.1 hr;rw[au];exact W r0 xL
     .obtain⟨r0,c0,k1,k2,rfl⟩:=CG hi J;exact⟨⟨WR h1 (N i r0 j c0 k1 k2).1.1,(N i r0 j c0 k1 k2).1.2⟩,Cq hx (N i r0 j c0 k1 k2).2⟩
    |tail e size X =>
     cases H;exact⟨G.1.mono (λ_ _=>rfl) λ_ _ hr=>hr.mono gS,G.2⟩
    |iter left cur =>
     cases H;exact⟨G.1.mono (λ_ _=>rfl) gS,G.2⟩
    |dR m =>
     cases H;obtain⟨g,es,Z,T,U,V,W,N⟩:=G;refine⟨g,es,Z,T,U,V,by rw[au];exact W,λj k v J=>?_⟩;obtain⟨v0,kH,rfl⟩:=wX J;obtain⟨e,he,q1,q2⟩:=N j k v0 kH;exact⟨e,he,q1,qN hx q2⟩
 .have l1:live ((kj s st.heap).map λp=>(p.1,qO s x p.2)) y:=ly;have l2:live ((kj s st.heap).map λp=>(p.1,qO s x p.2)) y' :=yR;rw[I]at l1 l2;exact K.holds.inj y y' b l1.1 l2.1
def Sim.freeze(s:Nat)(h:Sim cx E st a w):Sim cx E (st.freeze s) a w:=by
 unfold St.freeze;split
 .rename_i e sz rows fl H;obtain⟨σ,G⟩:=h;have U:live st.heap s:=aH.2 ⟨_,H⟩;have hx:Rep w (Own E.O (λy=>live st.heap y/\y≠s) σ) (.slice sz rows)<|σ s:=by
   obtain⟨xs,o1,o2,o3,o4,o5⟩:=G.holds.blk s _ H;rcases o1.2 with ⟨N,Y⟩|⟨g,cap,cur,N,_,T,V,_,e6,e7⟩
   .obtain rfl:rows=[]:=List.eq_nil_of_length_eq_zero Y;rw[N];exact .empty _ _ _
   .rw[N];have W:home (σ s)=some g:=by rw[N];rfl
    have J:¬Own E.O (λy=>live st.heap y/\y≠s) σ g:=by
     rintro(ho|⟨y,⟨hy,I⟩,Z⟩)
     .exact G.apart g ho<|o2 g W
     .exact I<|G.holds.inj y s g hy U Z W
    have K:∀(i:Nat) r (j:Nat) d,rows[i]? =some r->r[j]? =some d->w.cell? ⟨g,0+i*sz+j,none⟩=some (xs.getD (i*sz+j) Go.undef)/\Rep w (Own E.O (λy=>live st.heap y/\y≠s) σ) d (xs.getD (i*sz+j) Go.undef):=by
     intro i r j d hi D;obtain⟨u,hu,hd⟩:=o5 i r j d hi D;have hx:xs.getD (i*sz+j) Go.undef=u:=by simp[List.getD,hu]
     rw[hx];refine⟨?_,hd.mono gS⟩;rw[<- e7,List.getElem?_take]at hu;split at hu
     .simp only[World.cell?,T,Nat.zero_add];simpa using hu
     .cases hu
    exact .slice sz rows g 0 _ cap (λi j=>xs.getD (i*sz+j) Go.undef) rfl J (bP.1 T).1 V o4 (λi r j d hi D=>(K i r j d hi D).1) λi r j d hi D=>(K i r j d hi D).2
  exact⟨σ,G.frz U rfl hx⟩
 .rename_i m H;obtain⟨σ,G⟩:=h;have U:live st.heap s:=aH.2 ⟨_,H⟩;obtain⟨g,es,X,N,Y,T,V⟩:=G.holds.blk s _ H;have W:home (σ s)=some g:=by rw[N];rfl
  have J:¬Own E.O (λy=>live st.heap y/\y≠s) σ g:=by
   rintro(ho|⟨y,⟨hy,I⟩,Z⟩)
   .exact G.apart g ho Y
   .exact I<|G.holds.inj y s g hy U Z W
  exact⟨σ,G.frz U rfl<|by rw[N];exact .ofMap J (bP.1 T).1 T (V.mono λ_ _ h=>h.mono gS)⟩
 .rename_i m H;obtain⟨σ,G⟩:=h;have U:live st.heap s:=aH.2 ⟨_,H⟩;obtain⟨g,es,X,N,Y,T,V,e5⟩:=G.holds.blk s _ H;have W:home (σ s)=some g:=by rw[N];rfl
  have J:¬Own E.O (λy=>live st.heap y/\y≠s) σ g:=by
   rintro(ho|⟨y,⟨hy,I⟩,Z⟩)
   .exact G.apart g ho Y
   .exact I<|G.holds.inj y s g hy U Z W
  refine⟨σ,G.frz U rfl ?_⟩;rw[N];refine .ofMap J (bP.1 T).1 T ⟨⟨by simpa using V.1,V.2⟩,λj k v D=>?_⟩;rw[bc]at D;cases hp:m[j]? with
  |none=>rw[hp]at D;cases D
  |some p =>
   obtain⟨k0,v0⟩:=p;rw[hp]at D;cases D;obtain⟨e,h1,h2,h3⟩:=e5 j k0 v0 hp;exact⟨e,h1,.inl ⟨_,rfl,pP h2 rfl⟩,h3.mono gS⟩
 .rename_i cells H;split
  .rename_i ds hv;obtain⟨σ,G⟩:=h;have U:live st.heap s:=aH.2 ⟨_,H⟩;obtain⟨g,cur,t,N,Y,T,V,e5⟩:=G.holds.blk s _ H;obtain⟨_,K⟩:=cF hv;have W:home (σ s)=some g:=by rw[N];rfl
   have J:¬Own E.O (λy=>live st.heap y/\y≠s) σ g:=by
    rintro(ho|⟨y,⟨hy,I⟩,Z⟩)
    .exact G.apart g ho Y
    .exact I<|G.holds.inj y s g hy U Z W
   have key:∀j d,ds[j]? =some d->d.one=true/\j<cur.size/\Rep w (Own E.O (λy=>live st.heap y/\y≠s) σ) d (cur.getD j Go.undef):=λj d D=>by
    obtain⟨c,hc,H⟩:=K j d D;obtain⟨h1,h2⟩:=e5 j c hc;have hD:j<cur.size:=by rw[V];exact(aA.1 hc).1
    generalize cur.getD j Go.undef=u at h2
    cases c<;>simp only[fw]at H<;>first|(cases H;done)|skip
    case d y =>
     cases H;refine⟨?_,hD,?_⟩
     .rcases h1 with h1|h1
      .exact h1
      .cases h1
     .cases h2 with|d _ _ h2=>exact h2.mono gS
    case nil sz =>
     cases H;refine⟨rfl,hD,?_⟩;cases h2;exact .empty _ _ _
   refine⟨σ,G.frz U rfl ?_⟩;rw[N];refine .ptr ds g 0 (λj=>cur.getD j Go.undef) J (bP.1 T).1 (λd hd=>?_) (λj d D=>?_) λj d D=>(key j d D).2.2
   .obtain⟨j,D⟩:=cO hd;exact(key j d D).1
   .have:=(key j d D).2.1;simp[World.cell?,T,this]
  .exact h
 .exact h
def Sim.cC:∀(l:List Nat) {st:St},Sim cx E st a w->Sim cx E (st.cC l) a w
 |[],st,h=>h
 |s::t,st,h=>Sim.cC t<|h.freeze s
def FnR(cx:Cx)(f:FuncId)(fe:Bool)(e:TypeId)(sz:Nat)(rows:List<|List D)(fl:Bool)(args:List D)(G :List<|List D):Prop :=
 im cx.P f/\ ∀(O:Nat->Prop) (w:World) (v:Value) (vs:Array Value) (xs:List Value),(∀b,O b->b<w.heap.size)->jO cx w->(∀g cells,cx.gl g=some cells-> ¬O g)->(∀g,home v=some g->O g) ->
  w.ownsRow 0 e sz v rows.length xs->(fl=true-> ∃a,v= .slice a rows.length rows.length)->0<sz->(∀r∈rows,r.length=sz/\ ∀d∈r,d.one=true) ->
  (∀i r j d,rows[i]? =some r->r[j]? =some d-> ∃u,xs[i*sz+j]? =some u/\Rep w O d u)->vs.size=args.length->(∀(j:Nat) d,args[j]? =some d->Rep w O d (vs.getD j Go.undef)) ->
  Calls cx.P f (#[v]++vs) w λJ w' => ∃H I,(match fe with|true=>J= .returned H |false=>J= .returned Go.undef/\H =v)/\w'.os=w.os/\w'.tape=w.tape/\w'.output=w.output/\w.heap.size<=w'.heap.size /\
   (∀k,k<w.heap.size->home v≠some k->w'.heap[k]? =w.heap[k]?)/\(∀g,home H =some g->home v=some g\/w.heap.size<=g)/\w'.ownsRow 0 e sz H G.length I /\(∀r∈G,r.length=sz/\ ∀d∈r,d.one=true) /\
   ∀i r j d,G[i]? =some r->r[j]? =some d-> ∃u,I[i*sz+j]? =some u/\Rep w' (λb=>(O b/\home v≠some b)\/home H =some b) d u
def aaT(cx:Cx)(f:FuncId)(fe:Bool)(e:TypeId)(sz:Nat)(rows:List<|List D)(fl:Bool)(args:List D)(G :List<|List D):Prop :=
 im cx.P f/\ ∀(O:Nat->Prop) (w:World) (v:Value) (vs:Array Value) (xs:List Value),(∀b,O b->b<w.heap.size)->jO cx w->(∀g cells,cx.gl g=some cells-> ¬O g)->(∀g,home v=some g->O g) ->
  w.ownsRow 0 e sz v rows.length xs->(fl=true-> ∃a,v= .slice a rows.length rows.length)->0<sz->(∀r∈rows,r.length=sz/\ ∀d∈r,d.one=true) ->
  (∀i r j d,rows[i]? =some r->r[j]? =some d-> ∃u,xs[i*sz+j]? =some u/\Rep w O d u)->vs.size=args.length->(∀(j:Nat) d,args[j]? =some d->Rep w O d (vs.getD j Go.undef)) ->
  Calls cx.P f (#[v]++vs) w λJ w' => ∃I H,(match fe with|true=>J= .returned I |false=>J= .returned Go.undef/\I =v)/\w'.os=w.os/\w'.tape=w.tape/\w'.output=w.output/\w.heap.size<=w'.heap.size /\
   (∀k,k<w.heap.size->home v≠some k->w'.heap[k]? =w.heap[k]?)/\(∀g,home I =some g->home v=some g\/w.heap.size<=g)/\w'.ownsRow 0 e sz I G.length H /\(∀r∈G,r.length=sz/\ ∀d∈r,d.one=true) /\
   ∀i r j d,G[i]? =some r->r[j]? =some d-> ∃u,H[i*sz+j]? =some u/\Rep w O d u
variable {f:FuncId}{fe:Bool}{rows hK:List (List D)}
def ZJ{e:TypeId}{sz:Nat}{fl:Bool}{args:List D}(h:aaT cx f fe e sz rows fl args hK):FnR cx f fe e sz rows fl args hK :=by
 refine⟨h.1,λO w v vs xs hO hG J K h1 X Y Z h5 h6 h7=>(h.2 O w v vs xs hO hG J K h1 X Y Z h5 h6 h7).mono ?_⟩;rintro en w' ⟨v',N,W,q1,q2,q3,T,U,V,q7,q8,q9⟩;refine⟨v',N,W,q1,q2,q3,T,U,V,q7,q8,λi r j d hi hj=>?_⟩;obtain⟨u,hu,hd⟩:=q9 i r j d hi hj;refine⟨u,hu,hd.mono ⟨T,λb I G=>U b G λe=>I<|K b e,λb I G H=>?_⟩⟩;rcases H with ⟨H,_⟩|H
 .exact I H
 .rcases V b H with e|e
  .exact I<|K b e
  .omega
def Sim.born(s:Nat)(e:TypeId)(D :Nat)(h2:find st.heap s=none)(h3:0<D)(h4:s<100000)(h:Sim cx E st a w):∃σ,bS cx E ⟨st.aY,(s,.row e D [])::st.heap⟩ σ a w/\σ s= .slice none 0 0:=by
 obtain⟨σ,G⟩:=h;have hn:¬live st.heap s:=by unfold live;rw[h2];simp
 let σ' :Nat->Value:=λx=>if x=s then .slice none 0 0 else σ x
 have K:σ' s= .slice none 0 0:=if_pos rfl;have T:∀x,live st.heap x->σ' x=σ x:=λx I=>if_neg λ(e:x=s)=>hn<|e ▸ I
 have U:∀x,live ((s,Blk.row e D [])::st.heap) x ↔ x=s\/live st.heap x:=λx=>by
  have:=cP (bs:=[(s,Blk.row e D [])]) (h:=st.heap) (s:=x);rw[cN]at this;exact this
 have hk:bx w w (Own E.O (live st.heap) σ)<|Own E.O (live<|(s,Blk.row e D [])::st.heap) σ':=bx.less λb J=>by
  rcases J with J|⟨x,I,N⟩
  .exact .inl J
  .rcases (U x).1 I with rfl|I
   .rw[K]at N;cases N
   .rw[T x I]at N;exact .inr ⟨x,I,N⟩
 have V:∀x,live st.heap x->live ((s,Blk.row e D [])::st.heap) x/\σ' x=σ x:=λx I=>⟨(U x).2<|.inr I,T x I⟩
 refine⟨σ',⟨G.frame,G.new,G.apart,G.defers,G.nt,λq=>(G.aY q).mono hk V,⟨λx b J=>?_,λx y b l X f W =>?_⟩,G.gR,G.ee,λZ B Y=>⟨(G.fix Z B Y).1,λh=>?_⟩⟩,K⟩
 .have H :find ((s,Blk.row e D [])::st.heap) x=some b:=J;rw[gI]at H;split at H
  .rename_i N;subst N;cases H;exact⟨[],by rw[K];exact World.ownsRow_nil w 0 e D,(λb J=>by rw[K]at J;cases J),⟨h3,λe=>by cases e⟩,λr hr=>by simp at hr,λi r j d hi=>by simp at hi⟩
  .have I:live st.heap x:=aH.2 ⟨b,H⟩;exact(G.holds.blk x b H).mono hk V I λg _=>rfl
 .rcases (U x).1 l with rfl|l
  .rw[K]at f;cases f
  .rcases (U y).1 X with rfl|X
   .rw[K]at W;cases W
   .rw[T x l]at f;rw[T y X]at W;exact G.holds.inj x y b l X f W
 .rcases (U _).1 h with e|h
  .have yZ:=(G.fix Z B Y).1.2;omega
  .rw[T _ h];exact(G.fix Z B Y).2 h
def wI:List AV->List Nat
 |[]=>[]
 | .own s::t=>s::wI t
 |_::t=>wI t
def Xy(cx:Cx)(st0:St)(d:Option Nat)(fe:Bool)(f:FuncId)(args:List Operand)(H:List TypeId)(k:AV->St->Prop):Prop :=
 let st:=st0.cC (wI<|(cA cx st0 args H).drop 1)
 match cA cx st args H with
 | .own s::D=>(match find st.heap s,cB ju D with
  |some (.row e sz rows fl),some ds=> ∃j,FnR cx f fe e sz rows fl ds j /\(match fe with|true=>k (.own s) ⟨jo s st.aY,(s,.row e sz j)::fG s st.heap⟩|false=>k (.tuple []) ⟨st.aY,(s,.row e sz j)::st.heap⟩)
  |_,_=>False)
 | .nil _::D=>(match d,H with
  |some d,t::_=>(match cD cx t,find st.heap d,cB ju D,fe with
   |some (e,G),none,some ds,true=>(match Nat.ble 1 G.size,Nat.blt d 100000 with
    |true,true=> ∃j,FnR cx f true e G.size [] false ds j /\k (.own d) ⟨jo d st.aY,(d,.row e G.size j)::fG d ((d,.row e G.size [])::st.heap)⟩
    |_,_=>False)
   |_,_,_,_=>False)
  |_,_=>False)
 |_=>False
def wY{cx:Cx}{sl:List<|Nat×AV}{h h' :List<|Nat×Blk}:∀(xs:List Operand) (j:List TypeId),cA cx ⟨sl,h⟩ xs j=cA cx ⟨sl,h'⟩ xs j
 |[],_=>rfl
 |x::xs,t::j=>by simp only[cA];rw[wY xs j];cases x<;>rfl
 |x::xs,[]=>by simp only[cA];rw[wY xs []];cases x<;>rfl
def YS(fe:Bool)(s:Nat):AV:=match fe with|true=> .own s|false=> .tuple []
def YR(fe:Bool)(s:Nat)(sl:List<|Nat×AV):List<|Nat×AV:=match fe with|true=>jo s sl|false=>sl
def YQ(fe:Bool)(s:Nat)(h:List<|Nat×Blk):List<|Nat×Blk:=match fe with|true=>fG s h|false=>h
variable {o:Oper}{c:Call}
def Pw(ho:o.op= .call c)(hc:c.callee= .value (.func f)){I:List AV}{e:TypeId}{sz:Nat}{fl:Bool}{ds:List D}{x0:Operand}{X:List Operand}
 (yO:c.args.toList=x0::X) (hf:find st.heap s=some (.row e sz rows fl)) (hU:cB ju I=some ds) (kq:FnR cx f fe e sz rows fl ds hK) {v:AV} (Z:v=YS fe s)    {Q:Exit->Act->World->Prop} (hd:∀e,o.dst=some e->e<E.nt)
  (H:bS cx E st σ a w) (kM:a.eval x0=σ s) (hlen:I.length=X.length) (l2:∀(j:Nat) cc,I[j]? =some cc-> ∃x,X[j]? =some x/\aC w E.O (live st.heap) σ cc (a.eval x)) :
 o.wp cx.P a w (λa' w' =>Sim cx E ⟨bW (YR fe s st.aY) o.dst v,(s,.row e sz hK)::YQ fe s st.heap⟩ a' w') Q:=by
 obtain⟨k1,k2⟩:=cF hU;have Y:live st.heap s:=aH.2 ⟨_,hf⟩;obtain⟨xs,o1,o2,o3,o4,o5⟩:=H.holds.blk s _ hf;have V:c.args.map a.eval= #[σ s]++(X.map a.eval).toArray:=by
  rw[<- Array.toList_inj];simp[yO,kM]
 obtain⟨⟨fn,kd,ke,hN⟩,T⟩:=kq;have hE :¬fn.name= "runtime.NumGoroutine" :=by simpa using ke
 have hI :¬fn.body=none:=by intro e;rw[e]at hN;cases hN
 have hA:(execOp a.eval o).run cx.P w= .ok (.enter f<|#[σ s]++(X.map a.eval).toArray) w:=by
  have:a.eval (.func f)= .func (.func f) #[] #[]:=rfl;rw[<- V];simp[execOp,ho,resolve,hc,this,Deferred.ofValue,invoke,callFunc,kd,hE,hI]
 have K:=T (Own E.O (live st.heap) σ) w (σ s) (X.map a.eval).toArray xs (λb G=>H.sW b G) H.qj (λg cells hP=>H.tz hP) (λg hg=> .inr ⟨s,Y,hg⟩) o1 o3.2 o3.1 o4 o5
  (by simp;omega)
  (λj d hj=>by
   obtain⟨cc,yr,kU⟩:=k2 j d hj;obtain⟨x,yN,hr⟩:=l2 j cc yr;have:(X.map a.eval).toArray.getD j Go.undef=a.eval x:=by simp[yN]
   rw[this];exact kG kU hr)
 simp only[Oper.wp,hA,Oper.upon];refine K.mono λen w' =>?_
 rintro⟨v',yU,U,q1,q2,q3,q4,q5,q6,q7,q8,q9⟩;obtain⟨u,hu,ye⟩:∃u,en= .returned u/\ ∀σ' :Nat->Value,σ' s=v' -> ∀w',aC w' E.O (live st.heap) σ' v u:=by
  cases fe with
  |true=>exact⟨v',U,λσ' J w' =>by have Z:v= .own s:=Z;rw[Z];have:=aC.own (w:=w') (O:=E.O) (σ:=σ') s Y;rw[J]at this;exact this⟩
  |false=>exact⟨_,U.1,λσ' J w' =>by have Z:v= .tuple []:=Z;rw[Z];exact .tuple [] #[] rfl λj c hj=>by simp at hj⟩
 subst hu;dsimp only;have N:∀σ' :Nat->Value,σ' s=v' ->(∀x,x≠s->σ' x=σ x)->du w' E.F E.O (live st.heap) σ' s (.row e sz hK):=λσ' J e2=>by
  refine⟨yU,by rw[J];exact q7,λb G=>?_,⟨o3.1,λe=>by cases e⟩,q8,λi r j d hi hj=>?_⟩
  .rw[J]at G;rcases q6 b G with G|G
   .exact o2 b G
   .exact H.new b<|Nat.le_trans H.frame.size G
  .obtain⟨u,hu,hd⟩:=q9 i r j d hi hj;refine⟨u,hu,hd.mono (bx.less λb G=>?_)⟩;rcases G with G|⟨y,hy,ey⟩
   .refine .inl ⟨.inl G,λe=>?_⟩;exact H.apart b G<|(H.holds.home Y e).1
   .by_cases W:y=s
    .subst W;rw[J]at ey;exact .inr ey
    .rw[e2 y W]at ey;exact .inl ⟨.inr ⟨y,hy,ey⟩,λe=>W<|H.holds.inj y s b hy Y ey e⟩
 cases fe with
 |true=>exact H.Zf (τ:=v') hd Y (λaa e=>by rcases o1.2 with ⟨e',_⟩|⟨_,_,_,e',_⟩<;>(rw[e']at e;cases e)) q1 q2 q3 q4 q5 q6 (λσ' J e2 hC=>N σ' J e2) λσ' J=>ye σ' J w'
 |false =>
  have yg :v' =σ s:=U.2;exact⟨σ,H.Na hd Y q1 q2 q3 q4 q5 (λ_=>N σ yg.symm λ_ _=>rfl)<|ye σ yg.symm w'⟩
variable {k:AV->St->Prop}
def abt{st0:St}(ho:o.op= .call c)(hc:c.callee= .value (.func f))(h:Xy cx st0 o.dst fe f c.args.toList c.argTypes.toList k) :
 ∃v st1,lW cx o st0 ⟨bW st1.aY o.dst v,st1.heap⟩/\k v st1:=by
 unfold Xy at h;dsimp only at h;generalize ka:st0.cC (wI<|(cA cx st0 c.args.toList c.argTypes.toList).drop 1)=st at h;split at h
 .rename_i s U I;split at h
  .rename_i e sz rows fl ds hf X;obtain⟨G,V,hk⟩:=h;have N:∀(v:AV),v=YS fe s-> ∀(E:Env) a w (Q:Exit->Act->World->Prop),(∀e,o.dst=some e->e<E.nt)->Sim cx E st0 a w->o.wp cx.P a w (λa' w' =>Sim cx E ⟨bW (YR fe s st.aY) o.dst v,(s,.row e sz G)::YQ fe s st.heap⟩ a' w') Q:=by
    intro v hv E a w Q hd Z;obtain⟨σ,hs⟩:Sim cx E st a w:=by rw[<- ka];exact Z.cC _
    obtain⟨l1,l2⟩:=jB (St.le.refl st) hs c.args.toList c.argTypes.toList;rw[I]at l1 l2;obtain⟨x0,D,K⟩:=l2 0 _ rfl;obtain⟨xr,H⟩:∃xr,c.args.toList=x0::xr:=by
     cases J:c.args.toList with
     |nil=>rw[J]at D;cases D
     |cons y ys=>rw[J]at D;cases D;exact⟨ys,rfl⟩
    have kM:a.eval x0=σ s:=by generalize a.eval x0=u at K;cases K;rfl
    refine Pw ho hc H hf X V hv hd hs kM ?_ λj cc W=>?_
    .rw[H]at l1;simp at l1;omega
    .obtain⟨x,hx,hr⟩:=l2 (j+1) cc (by simpa using W);rw[H]at hx;exact⟨x,by simpa using hx,hr⟩
   cases fe with
   |true=>exact⟨.own s,⟨jo s st.aY,(s,.row e sz G)::fG s st.heap⟩,N _ rfl,hk⟩
   |false=>exact⟨.tuple [],⟨st.aY,(s,.row e sz G)::st.heap⟩,N _ rfl,hk⟩
  .exact h.elim
 .rename_i z U I;split at h
  .rename_i d t zc yy zb;split at h
   .rename_i e ei ds kh yz X;split at h
    .rename_i b1 b2;obtain⟨G,V,hk⟩:=h;refine⟨.own d,_,λE a w Q hd Z=>?_,hk⟩;obtain⟨σ0,T⟩:Sim cx E st a w:=by rw[<- ka];exact Z.cC _
     obtain⟨l1,l2⟩:=jB (St.le.refl st) T c.args.toList c.argTypes.toList;rw[I]at l1 l2;obtain⟨x0,D,K⟩:=l2 0 _ rfl;obtain⟨xr,H⟩:∃xr,c.args.toList=x0::xr:=by
      cases J:c.args.toList with
      |nil=>rw[J]at D;cases D
      |cons y ys=>rw[J]at D;cases D;exact⟨ys,rfl⟩
     obtain⟨σ,hs,hσ⟩:=Sim.born d e ei.size yz (bA b1) (Nat.lt_of_succ_le<|bA b2) ⟨σ0,T⟩;have kM:a.eval x0=σ d:=by rw[hσ];generalize a.eval x0=u at K;cases K;rfl
     have Y:cA cx ⟨st.aY,(d,.row e ei.size [])::st.heap⟩ c.args.toList c.argTypes.toList=AV.nil z::U:=by rw[<- I];exact wY _ _
     obtain⟨m1,m2⟩:=jB (St.le.refl _) hs c.args.toList c.argTypes.toList;rw[Y]at m1 m2;refine Pw (st:=⟨st.aY,(d,.row e ei.size [])::st.heap⟩) (fe:=true) ho hc H (by exact bo ..) X V rfl hd hs kM ?_ λj cc W=>?_
     .rw[H]at m1;simp at m1;omega
     .obtain⟨x,hx,hr⟩:=m2 (j+1) cc (by simpa using W);rw[H]at hx;exact⟨x,by simpa using hx,hr⟩
    .exact h.elim
   .exact h.elim
  .exact h.elim
 .exact h.elim
def Da(cx:Cx)(st:St)(f:AV)(args:List AV)(k:AV->St->Prop):Prop :=
 match callee f with
 |some (g,a,b)=>(match a++args++b with
  | .ptr s 0::D=>(match find st.heap s,cB ju D with
   |some (.box cs),some ds=>(match cB fw cs with
    |some cells=> ∃v j,FnB cx g cells ds v j /\k v ⟨st.aY,(s,.box<|j.map .d)::st.heap⟩
    |none=>False)
   |_,_=>False)
  |_=>False)
 |none=>False
def Jt{f:Operand}(ho:o.op= .call c)(hc:c.callee= .value f)(h:Da cx st (st.ev cx f) (cA cx st c.args.toList c.argTypes.toList) k) :
 ∃v st1,lW cx o st ⟨bW st1.aY o.dst v,st1.heap⟩/\k v st1:=by
 unfold Da at h;split at h
 .rename_i g xs ys hg;split at h
  .rename_i s rest W;split at h
   .rename_i cs ds hf hU;split at h
    .rename_i cells T;obtain⟨v,K,kq,hk⟩:=h;refine⟨v,_,λE a w Q hd ⟨σ,hs⟩=>?_,hk⟩;obtain⟨us,vs,hu,s1,s2,r1,r2⟩:=qd hg<|hs.ev (St.le.refl st) f;obtain⟨l1,l2⟩:=jB (St.le.refl st) hs c.args.toList c.argTypes.toList;obtain⟨⟨fn,kd,ke,hN⟩,Z⟩:=kq;have hE :¬fn.name= "runtime.NumGoroutine" :=by simpa using ke
     have hI :¬fn.body=none:=by intro e;rw[e]at hN;cases hN
     have X:(execOp a.eval o).run cx.P w= .ok (.enter g<|us++c.args.map a.eval++vs) w:=by
      simp[execOp,ho,resolve,hc,hu,Deferred.ofValue,invoke,callFunc,kd,hE,hI]
     have G:=qC (R:=aC w E.O (live st.heap) σ) (A:=xs) (B:=cA cx st c.args.toList c.argTypes.toList) (C:=ys) (ys:=c.args.map a.eval) s1 (by simp[l1]) r1 (λj Y J=>by
      obtain⟨x,hx,hr⟩:=l2 j Y J;have:(c.args.map a.eval).getD j Go.undef=a.eval x:=by rw[bE]at hx;simp[hx]
      rw[this];exact hr) r2
     have V:(us++c.args.map a.eval++vs).size=(AV.ptr s 0::rest).length:=by rw[<- W];simp[s1,s2,l1]
     rw[W]at G;generalize us++c.args.map a.eval++vs=D at X G V;obtain⟨B,cur,t,e1,e2,e3,e4,e5⟩:=hs.holds.blk s _ hf;have hl:live st.heap s:=aH.2 ⟨_,hf⟩;have h0:D.getD 0 Go.undef= .pointer (some ⟨B,0,none⟩):=by
      have:=G 0 _ rfl;generalize D.getD 0 Go.undef=u at this;cases this with|ptr _ _ b hL hσ=>rw[hσ]at e1;cases e1;rfl
     have kb:D= #[.pointer<|some ⟨B,0,none⟩]++D.extract 1 D.size:=by
      apply Array.ext
      .simp at V ⊢;omega
      .intro i h1 h2;rcases i with _|i
       .have:D[0]=D.getD 0 Go.undef:=by simp[h1]
        rw[this,h0];simp
       .simp[Array.getElem_append]
        congr 1;omega
     obtain⟨k1,k2⟩:=cF hU;obtain⟨q1,q2⟩:=cF T;have H:=Z (Own E.O (live st.heap) σ) w B cur t (D.extract 1 D.size) (λb hb=>hs.sW b hb) hs.qj (λg cells hP=>hs.tz hP) (.inr ⟨s,hl,by rw[e1];rfl⟩) e3 (by rw[e4,q1])
      (λj d J=>by
       obtain⟨Y,I,U⟩:=q2 j d J;refine⟨?_,jE U (e5 j Y I).2⟩;have h1:=(e5 j Y I).1;cases Y<;>simp[fw]at U
       .subst U;rcases h1 with h1|h1
        .exact h1
        .cases h1
       .subst U;rfl)
      (by simp at V ⊢;omega)
      (λj d J=>by
       obtain⟨Y,I,kU⟩:=k2 j d J;have hr:=G (j+1) Y (by simpa using I);have hD:j+1<D.size:=by rw[V];have:=(aA.1 I).1;simp;omega
       have:(D.extract 1 D.size).getD j Go.undef=D.getD (j+1) Go.undef:=by
        simp[bU,Array.getElem?_extract,hD,show j<D.size-1 by omega,Nat.add_comm]
       rw[this];exact kG kU hr)
     rw[<- kb]at H;simp only[Oper.wp,X,Oper.upon];refine H.mono λen w' =>?_
     rintro⟨u,kp,t',rfl,p1,p2,p3,p4,p5,p6,p7,p8,p9⟩;dsimp only;have kn:bx w' w' (Own (Own E.O (live st.heap) σ) (λ_=>False) λ_=>Value.nilFunc)<|Own E.O (live st.heap) σ:=bx.less λb hb=> .inl hb
     refine⟨σ,hs.abV hd hl (by rw[e1];rfl) p1 p2 p3 p4 p5 (λhC=>?_) (p9.mono kn λs h=>h.elim)⟩;refine⟨B,kp,t',e1,e2,p6,by rw[p7,au],λj c J=>?_⟩;rw[bc]at J;cases N :K[j]? with
     |none=>rw[N]at J;cases J
     |some d=>rw[N]at J;cases J;exact⟨.inl (p8 j d N).1,.d _ _ (p8 j d N).2⟩
    .exact h.elim
   .exact h.elim
  .exact h.elim
 .exact h.elim
def fy:List Nat->Nat->Bool
 |[],_=>false
 |x::t,i=>match Nat.beq x i with|true=>true|false=>fy t i
def ll:∀{l:List Nat} {i:Nat},fy l i=true->i∈l
 |[],_,h=>by cases h
 |x::t,i,h=>by
  simp only[fy]at h;split at h
  .rename_i e;rw[bg e];exact List.mem_cons_self ..
  .exact aZ _<|ll h
def YU:Option Blk->Bool
 |some (.box _)=>true
 |_=>false
def cV(h:List<|Nat×Blk):List Nat:=(h.map (·.1)).filter λs=>Nat.ble 100000 s&&YU (find h s)
def lF{h:List<|Nat×Blk}(j:s∈cV h):100000<=s/\ ∃cells,find h s=some (.box cells):=by
 unfold cV at j;rw[List.mem_filter,aK]at j;refine⟨bA j.2.1,?_⟩;have:=j.2.2;unfold YU at this;split at this
 .rename_i cells e;exact⟨cells,e⟩
 .cases this
def dX(h:List<|Nat×Blk)(σ:Nat->Value)(b:Nat):Prop:= ∃s,live h s/\home (σ s)=some b
def FnH(cx:Cx)(f:FuncId)(args:List AV)(h:List<|Nat×Blk)(x:AV)(h' :List<|Nat×Blk):Prop :=
 im cx.P f/\ ∀(O:Nat->Prop) (w:World) (σ:Nat->Value) (vs:Array Value),(∀b,O b->b<w.heap.size)->jO cx w->(∀g cells,cx.gl g=some cells-> ¬O g/\ ¬dX h σ g)->(∀b,O b-> ¬dX h σ b) ->
  Holds w (dX h σ) O h σ->vs.size=args.length->(∀(j:Nat) c,args[j]? =some c->aC w O (live h) σ c (vs.getD j Go.undef)) ->
  Calls cx.P f vs w λD w' => ∃u σ',D= .returned u/\we (λb=>dX h σ b\/w.heap.size<=b) w w' /\Holds w' (λb=>dX h σ b\/w.heap.size<=b) O h' σ' /\
   (∀s∈cV h,live h' s->σ' s=σ s)/\aC w' O (live h') σ' x u
def du.inF{F I O L:Nat->Prop}{b:Blk}(h:du w F O L σ s b)(G:∀g,NQ.home (σ s)=some g->I g):du w I O L σ s b:=by
 cases b with
 |box cells =>
  obtain⟨b,cur,t,h1,H,D⟩:=h;exact⟨b,cur,t,h1,G b<|by rw[h1];rfl,D⟩
 |row e size rows fl =>
  obtain⟨xs,h1,H,D⟩:=h;exact⟨xs,h1,G,D⟩
 |smap m =>
  obtain⟨b,es,j,h1,H,D⟩:=h;exact⟨b,es,j,h1,G b<|by rw[h1];rfl,D⟩
 |cS m =>
  obtain⟨b,es,j,h1,H,D⟩:=h;exact⟨b,es,j,h1,G b<|by rw[h1];rfl,D⟩
 |fb e size rows =>
  obtain⟨b,cur,t,h1,H,D⟩:=h;exact⟨b,cur,t,h1,G b<|by rw[h1];rfl,D⟩
 |tail e size rows=>exact⟨h.1,G⟩
 |iter left cur=>exact⟨h.1,G⟩
 |dR m =>
  obtain⟨b,es,j,h1,H,D⟩:=h;exact⟨b,es,j,h1,G b<|by rw[h1];rfl,D⟩
def gj{α:Type}:∀{l:List<|Nat×α} {i:Nat} {x:α},find l i=some x->(i,x)∈l
 |[],_,_,h=>by cases h
 |(k,y)::t,i,x,h=>by
  simp only[find]at h;split at h
  .rename_i e;cases h;rw[bg e];exact List.mem_cons_self ..
  .exact aZ _<|gj h
section
variable {w w' :World} {O O' L L' :Nat->Prop} {σ σ' :Nat->Value} {fx:List Nat}
end
def cw(j:List Nat)(h:List<|Nat×Blk):List<|Nat×Blk:=h.filter λp=>fy j p.1
def dZ(j:List Nat)(h:List<|Nat×Blk):List<|Nat×Blk:=h.filter λp=> !fy j p.1
def pJ(D:List Nat)(s:Nat):∀h:List (Nat×Blk),find (cw D h) s=if fy D s=true then find h s else none
 |[]=>by unfold cw;simp[find]
 |(k,x)::t=>by
  have G:=pJ D s t;unfold cw at G ⊢;by_cases j:fy D k=true
  .rw[List.filter_cons_of_pos<|by simpa using j];by_cases e:k=s
   .subst e;rw[bo,if_pos j,bo]
   .rw[bp _ _ e,G,bp _ _ e]
  .rw[List.filter_cons_of_neg<|by simpa using j,G];by_cases e:k=s
   .subst e;rw[if_neg j,if_neg j]
   .rw[bp _ _ e]
def rR(D:List Nat)(s:Nat):∀h:List (Nat×Blk),find (dZ D h) s=if fy D s=true then none else find h s
 |[]=>by unfold dZ;simp[find]
 |(k,x)::t=>by
  have G:=rR D s t;unfold dZ at G ⊢;by_cases j:fy D k=true
  .rw[List.filter_cons_of_neg<|by simp[j],G];by_cases e:k=s
   .subst e;rw[if_pos j,if_pos j]
   .rw[bp _ _ e]
  .rw[List.filter_cons_of_pos<|by simpa using j];by_cases e:k=s
   .subst e;rw[bo,if_neg j,bo]
   .rw[bp _ _ e,G,bp _ _ e]
def tU{α:Type}(s:Nat):∀(a b:List<|Nat×α),find (a++b) s=match find a s with|some x=>some x|none=>find b s
 |[],b=>rfl
 |(k,x)::t,b=>by
  by_cases e:k=s
  .subst e;rw[List.cons_append,bo,bo]
  .rw[List.cons_append,bp _ _ e,bp _ _ e];exact tU s t b
def wg(nm:List Nat):AV->Bool
 | .d _=>true
 | .nil _=>true
 | .undef=>true
 | .ptr s _=>fy nm s
 | .own s=>fy nm s
 | .omap s=>fy nm s
 |_=>false
def iN(nm:List Nat):AV->Bool
 | .fn _ a b=>a.all (wg nm)&&b.all (wg nm)
 | .agg cs=>cs.all<|wg nm
 |v=>wg nm v
def Fh(nm:List Nat):Blk->Bool
 | .box cells=>cells.all<|iN nm
 | .row .. =>true
 | .smap _=>true
 | .cS _=>true
 | .dR m=>m.all λp=>iN nm p.2
 | .fb _ _ rows=>rows.all λr=>r.all<|iN nm
 |_=>false
section
variable {w:World} {O O' L L' :Nat->Prop} {σ:Nat->Value} {nm:List Nat}
def rp{v:AV}{u:Value}(h:aC w O L σ v u)(j:wg nm v=true)(D:∀s∈nm,L' s)(k:bx w w (Own O L σ)<|Own O' L' σ):aC w O' L' σ v u:=by
 cases h with
 |undef=>exact .undef _
 |d x v h=>exact .d _ _<|h.mono k
 |nil=>exact .nil _
 |ptr s off b _ h=>exact .ptr s off b (D s<|ll j) h
 |own s _=>exact .own s<|D s<|ll j
 |omap s _=>exact .omap s<|D s<|ll j
 |_=>cases j
def qf{v:AV}{u:Value}(h:aC w O L σ v u)(G:iN nm v=true)(H:∀s∈nm,L' s)(k:bx w w (Own O L σ)<|Own O' L' σ):aC w O' L' σ v u:=by
 cases v with
 |fn f a b =>
  cases h with|fn _ _ _ xs vs N I h1 J =>
   simp only[iN,aK,aG]at G;exact .fn _ _ _ _ _ N I (λj c D=>rp (h1 j c D) (G.1 c<|aw D) H k) λj c D=>rp (J j c D) (G.2 c<|aw D) H k
 |agg cs =>
  cases h with|agg _ vs I K =>
   simp only[iN,aG]at G;exact .agg _ _ I λj c D=>rp (K j c D) (G c<|aw D) H k
 |_=>exact rp h G H k
def Gt{F:Nat->Prop}{s:Nat}{b:Blk}(h:du w F O L σ s b)(N:Fh nm b=true)(U:∀s∈nm,L' s)(k:bx w w (Own O L σ)<|Own O' L' σ):du w F O' L' σ s b:=by
 cases b with
 |box cells =>
  obtain⟨b,cur,t,h1,H,I,J,K⟩:=h;simp only[Fh,aG]at N;exact⟨b,cur,t,h1,H,I,J,λj c G=>⟨(K j c G).1,qf (K j c G).2 (N c<|aw G) U k⟩⟩
 |row e size rows fl =>
  obtain⟨xs,h1,H,I,J,K⟩:=h;exact⟨xs,h1,H,I,J,λi r j d T G=>by obtain⟨u,hu,Z⟩:=K i r j d T G;exact⟨u,hu,Z.mono k⟩⟩
 |smap m =>
  obtain⟨b,es,D,h1,H,I,J,K⟩:=h;exact⟨b,es,D,h1,H,I,J,λj Y v G=>by obtain⟨e,V,W,X⟩:=K j Y v G;exact⟨e,V,W.mono k,X.mono k⟩⟩
 |cS m =>
  obtain⟨b,es,D,h1,H,I,J⟩:=h;exact⟨b,es,D,h1,H,I,J.mono λ_ _ h=>h.mono k⟩
 |fb e size rows =>
  obtain⟨b,cur,t,h1,H,I,J,K⟩:=h;simp only[Fh,aG]at N;exact⟨b,cur,t,h1,H,I,J,λi r j c T G=>⟨(K i r j c T G).1,qf (K i r j c T G).2 (N r (aw T) c<|aw G) U k⟩⟩
 |tail _ _ _=>cases N
 |iter _ _=>cases N
 |dR m =>
  obtain⟨b,es,D,h1,H,I,J,K⟩:=h;simp only[Fh,aG]at N;exact⟨b,es,D,h1,H,I,J,λj Y v G=>by obtain⟨e,V,W,X⟩:=K j Y v G;exact⟨e,V,W,qf X (N _<|aw G) U k⟩⟩
end

section
variable {w w' :World} {O O' L L' :Nat->Prop} {σ σ' :Nat->Value} {nm:List Nat}
def qe{v:AV}{u:Value}(h:aC w O L σ v u)(D:wg nm v=true)(k:bx w w' (Own O L σ)<|Own O' L' σ')(j:∀s∈nm,L' s/\σ' s=σ s):aC w' O' L' σ' v u:=by
 cases h with
 |undef=>exact .undef _
 |d x v h=>exact .d _ _<|h.mono k
 |nil=>exact .nil _
 |ptr s off b _ h =>
  have:=j s<|ll D;exact .ptr s off b this.1<|this.2.trans h
 |own s _ =>
  have:=j s<|ll D;rw[<- this.2];exact .own s this.1
 |omap s _ =>
  have:=j s<|ll D;rw[<- this.2];exact .omap s this.1
 |_=>cases D
def mH{v:AV}{u:Value}(h:aC w O L σ v u)(H:iN nm v=true)(k:bx w w' (Own O L σ)<|Own O' L' σ')(D:∀s∈nm,L' s/\σ' s=σ s):aC w' O' L' σ' v u:=by
 cases v with
 |fn f a b =>
  cases h with|fn _ _ _ xs vs N I h1 J =>
   simp only[iN,aK,aG]at H;exact .fn _ _ _ _ _ N I (λj c G=>qe (h1 j c G) (H.1 c<|aw G) k D) λj c G=>qe (J j c G) (H.2 c<|aw G) k D
 |agg cs =>
  cases h with|agg _ vs I K =>
   simp only[iN,aG]at H;exact .agg _ _ I λj c G=>qe (K j c G) (H c<|aw G) k D
 |_=>exact qe h H k D
def yL(nm:List Nat):Blk->Bool
 | .box cells=>cells.all<|iN nm
 | .fb _ _ rows=>rows.all λr=>r.all<|iN nm
 | .dR m=>m.all λp=>iN nm p.2
 |_=>true
def xf{F:Nat->Prop}{s:Nat}{b:Blk}(h:du w F O L σ s b)(U:yL nm b=true)(hs:s∈nm)(N:∀s∈nm,L' s/\σ' s=σ s)(T:∀g,NQ.home (σ s)=some g->w'.heap[g]? =w.heap[g]?)(k:bx w w' (Own O L σ)<|Own O' L' σ'):du w' F O' L' σ' s b:=by
 have e:=(N s hs).2;cases b with
 |box cells =>
  obtain⟨b,cur,t,h1,I,H,J,K⟩:=h;simp only[yL,aG]at U;exact⟨b,cur,t,e.trans h1,I,(T b<|by rw[h1];rfl).trans H,J,λj c G=>⟨(K j c G).1,mH (K j c G).2 (U c<|aw G) k N⟩⟩
 |row W size rows fl =>
  obtain⟨xs,h1,I,H,J,K⟩:=h;refine⟨xs,?_,?_,⟨H.1,λq=>by rw[e];exact H.2 q⟩,J,λi r j d V G=>?_⟩
  .rw[e];refine⟨h1.1,?_⟩;rcases h1.2 with h|⟨g,cap,cur,e1,e2,e3,e4⟩
   .exact .inl h
   .exact .inr ⟨g,cap,cur,e1,e2,(T g<|by rw[e1];rfl).trans e3,e4⟩
  .rw[e];exact I
  .obtain⟨u,hu,Z⟩:=K i r j d V G;exact⟨u,hu,Z.mono k⟩
 |smap m =>
  obtain⟨b,es,D,h1,I,H,J,K⟩:=h;exact⟨b,es,D,e.trans h1,I,(T b<|by rw[h1];rfl).trans H,J,λj kk v G=>by obtain⟨e,X,Y,hv⟩:=K j kk v G;exact⟨e,X,Y.mono k,hv.mono k⟩⟩
 |cS m =>
  obtain⟨b,es,D,h1,I,H,J⟩:=h;exact⟨b,es,D,e.trans h1,I,(T b<|by rw[h1];rfl).trans H,J.mono λ_ _ h=>h.mono k⟩
 |dR m =>
  obtain⟨b,es,D,h1,I,H,J,K⟩:=h;simp only[yL,aG]at U;exact⟨b,es,D,e.trans h1,I,(T b<|by rw[h1];rfl).trans H,J,λj kk v G=>by obtain⟨e,X,Y,hv⟩:=K j kk v G;exact⟨e,X,Y,mH hv (U _<|aw G) k N⟩⟩
 |fb W size rows =>
  obtain⟨b,cur,t,h1,I,H,J,K⟩:=h;simp only[yL,aG]at U;exact⟨b,cur,t,e.trans h1,I,(T b<|by rw[h1];rfl).trans H,J,λi r j c V G=>⟨(K i r j c V G).1,mH (K i r j c V G).2 (U r (aw V) c<|aw G) k N⟩⟩
 |tail W size rows =>
  show jQ w' _ W size rows (σ' s)/\_
  rw[e];exact⟨h.1.mono T λ_ _ Z=>Z.mono k,h.2⟩
 |iter left cur =>
  show rH w' _ left cur (σ' s)/\_
  rw[e];exact⟨h.1.mono T k,h.2⟩
end
def uV(j:List Nat)(sl:List<|Nat×AV):List<|Nat×AV:=sl.map λp=>(p.1,if iN j p.2=true then p.2 else .undef)
def sO(j:List Nat)(t:Nat):∀sl:List (Nat×AV),find (uV j sl) t=(find sl t).map λv=>if iN j v=true then v else .undef
 |[]=>rfl
 |p::r=>by
  show find ((p.1,if iN j p.2=true then p.2 else .undef)::uV j r) t=_
  by_cases h:p.1=t
  .subst h;rw[bo,show p::r=(p.1,p.2)::r from rfl,bo];rfl
  .rw[bp _ _ h,show p::r=(p.1,p.2)::r from rfl,bp _ _ h];exact sO j t r
def zx(cx:Cx)(st:St)(f:AV)(args:List AV)(k:AV->St->Prop):Prop :=
 match callee f with
 | some (g, a, b) => ∃ (j : List Nat) (x : AV) (h' : List<|Nat × Blk), FnH cx g (a ++ args ++ b) (dZ j st.heap) x h' /\
     (((cV<|dZ j st.heap).all (λs=>(find h' s).isSome)=true/\(h'.map (·.1)).all (λs=>(Nat.blt s 100000||fy (cV<|dZ j st.heap) s)&& !fy j s)=true) /\
      ((a++args++b).all (iN ((dZ j st.heap).map (·.1)))=true/\(dZ j st.heap).all (λp=>Fh ((dZ j st.heap).map (·.1)) p.2)=true/\(cw j st.heap).all (λp=>yL ((cw j st.heap).map (·.1)) p.2)=true))/\k x ⟨uV (cV (dZ j st.heap)++(cw j st.heap).map (·.1)) st.aY,cw j st.heap++h'⟩
 |none=>False
def Cs{cx:Cx}{st:St}{o:Oper}{c:Call}{f:Operand}{k:AV->St->Prop}(ho:o.op= .call c)(hc:c.callee= .value f)(h:zx cx st (st.ev cx f) (cA cx st c.args.toList c.argTypes.toList) k) :
 ∃v st1,lW cx o st ⟨bW st1.aY o.dst v,st1.heap⟩/\k v st1:=by
 unfold zx at h;split at h
 .rename_i g xs ys U;obtain⟨H,x,h',kq,⟨⟨c1,c2⟩,c4,c5,c6⟩,hk⟩:=h;refine⟨x,⟨uV (cV (dZ H st.heap)++(cw H st.heap).map (·.1)) st.aY,cw H st.heap++h'⟩,λE a w Q hd ⟨σ,I⟩=>?_,hk⟩;obtain⟨us,vs,hu,s1,s2,r1,r2⟩:=qd U<|I.ev (St.le.refl st) f;obtain⟨l1,l2⟩:=jB (St.le.refl st) I c.args.toList c.argTypes.toList;obtain⟨⟨fn,kd,ke,hN⟩,hV⟩:=kq;have hE :¬fn.name= "runtime.NumGoroutine" :=by simpa using ke
  have hI :¬fn.body=none:=by intro e;rw[e]at hN;cases hN
  have hA:(execOp a.eval o).run cx.P w= .ok (.enter g<|us++c.args.map a.eval++vs) w:=by
   simp[execOp,ho,resolve,hc,hu,Deferred.ofValue,invoke,callFunc,kd,hE,hI]
  have hM:=qC (R:=aC w E.O (live st.heap) σ) (A:=xs) (B:=cA cx st c.args.toList c.argTypes.toList) (C:=ys) (ys:=c.args.map a.eval) s1 (by simp[l1]) r1 (λj cc hj=>by
   obtain⟨x,hx,hr⟩:=l2 j cc hj;have:(c.args.map a.eval).getD j Go.undef=a.eval x:=by rw[bE]at hx;simp[hx]
   rw[this];exact hr) r2
  have hQ:(us++c.args.map a.eval++vs).size=(xs++cA cx st c.args.toList c.argTypes.toList++ys).length:=by simp[s1,s2,l1]
  have K:∀s,live (dZ H st.heap) s ↔ live st.heap s/\fy H s=false:=λs=>by
   unfold live;rw[rR];cases fy H s<;>simp
  have T:∀s,live (cw H st.heap) s ↔ live st.heap s/\fy H s=true:=λs=>by
   unfold live;rw[pJ];cases fy H s<;>simp
  obtain⟨O',Y⟩:∃O' :Nat->Prop,O' =λb=>E.O b\/dX (cw H st.heap) σ b:=⟨_,rfl⟩
  have xm:∀b,dX (cw H st.heap) σ b->E.F b/\b<w.heap.size:=λb ⟨s,G,e⟩=>I.holds.home ((T s).1 G).1 e
  have kA:∀b,dX (dZ H st.heap) σ b->E.F b/\b<w.heap.size:=λb ⟨s,G,e⟩=>I.holds.home ((K s).1 G).1 e
  have hW:∀b,dX (cw H st.heap) σ b-> ¬dX (dZ H st.heap) σ b:=λb ⟨s,G,e⟩ ⟨N,V,e'⟩=>by
   have:=I.holds.inj s N b ((T s).1 G).1 ((K N).1 V).1 e e';subst this;have h1:=((T s).1 G).2;rw[((K s).1 V).2]at h1;cases h1
  have xq:∀b,Own O' (live<|dZ H st.heap) σ b ↔ Own E.O (live st.heap) σ b:=λb=>by
   rw[Y];constructor
   .rintro((D|⟨s,G,e⟩)|⟨s,G,e⟩)
    .exact .inl D
    .exact .inr ⟨s,((T s).1 G).1,e⟩
    .exact .inr ⟨s,((K s).1 G).1,e⟩
   .rintro(D|⟨s,G,e⟩)
    .exact .inl<|.inl D
    .cases hf:fy H s with
     |true=>exact .inl<|.inr ⟨s,(T s).2 ⟨G,hf⟩,e⟩
     |false=>exact .inr ⟨s,(K s).2 ⟨G,hf⟩,e⟩
  have xY:bx w w (Own E.O (live st.heap) σ)<|Own O' (live<|dZ H st.heap) σ:=bx.less λb D=>(xq b).1 D
  have yb:∀s∈(dZ H st.heap).map (·.1),live (dZ H st.heap) s:=λs J=>by
   obtain⟨p,hp,rfl⟩:=List.mem_map.1 J;have xK :=List.mem_filter.1 hp;refine(K p.1).2 ⟨?_,by simpa using xK.2⟩;have:∀(l:List<|Nat×Blk),p∈l->live l p.1:=λl=>by
    induction l with
    |nil=>intro h;cases h
    |cons q t ih =>
     intro J;by_cases e:q.1=p.1
     .exact aH.2 ⟨q.2,by rw[<- e];exact bo ..⟩
     .rcases List.mem_cons.1 J with rfl|J
      .exact absurd rfl e
      .obtain⟨b,D⟩:=aH.1<|ih J;exact aH.2 ⟨b,by rw[show q=(q.1,q.2)from rfl,bp _ _ e];exact D⟩
   exact this _ xK.1
  have kr := hV O' w σ (us ++ c.args.map a.eval ++ vs) (fun b D => by
      rw[Y]at D;rcases D with D|D
      .exact I.sW b<|.inl D
      .exact(xm b D).2) I.qj (λg cells hP=>by
      obtain⟨g1,g2⟩:=I.ee g cells hP;refine⟨λU=>?_,λU=>g1 (kA g U).1⟩;rw[Y]at U;rcases U with U|U
      .exact g2 U
      .exact g1 (xm g U).1)
   (λb D hH=>by
    rw[Y]at D;rcases D with D|D
    .exact I.apart b D (kA b hH).1
    .exact hW b D hH) ⟨λs b D=>by
     have Z :find st.heap s=some b:=by
      rw[rR]at D;split at D
      .cases D
      .exact D
     have J:=aG.1 c5 _<|gj D;exact((Gt (I.holds.blk s b Z) J yb xY)).inF λg U=>⟨s,aH.2 ⟨b,D⟩,U⟩,λs N b G V =>I.holds.inj s N b ((K s).1 G).1 ((K N).1 V).1⟩ hQ
   (λj cc hj=>qf (hM j cc hj) (aG.1 c4 cc<|aw hj) yb xY)
  simp only[Oper.wp,hA,Oper.upon];refine kr.mono λen w' =>?_
  rintro⟨u,σ',rfl,X,kY,kV,hR⟩;dsimp only;have hF:∀b,(dX (dZ H st.heap) σ b\/w.heap.size<=b)->E.F b:=λb D=>by
   rcases D with D|D
   .exact(kA b D).1
   .exact I.new b<|Nat.le_trans I.frame.size D
  have yG:∀s,live h' s->fy H s=false:=λs G=>by
   obtain⟨b,D⟩:=aH.1 G;have:=aG.1 c2 s<|List.mem_map.2 ⟨_,gj D,rfl⟩;rw[aK]at this;simpa using this.2
  have W:∀s,live (cw H st.heap++h') s ↔ live (cw H st.heap) s\/live h' s:=λs=>by
   unfold live;rw[tU];cases find (cw H st.heap) s<;>simp
  obtain⟨τ,hτ⟩:∃τ:Nat->Value,τ=λs=>if fy H s=true then σ s else σ' s:=⟨_,rfl⟩
  have tE:∀s,live (cw H st.heap) s->τ s=σ s:=λs G=>by rw[hτ];exact if_pos ((T s).1 G).2
  have tH:∀s,live h' s->τ s=σ' s:=λs G=>by rw[hτ];exact if_neg (by rw[yG s G];simp)
  have km:∀b,Own E.O (live<|cw H st.heap++h') τ b->Own O' (live h') σ' b:=λb D=>by
   rw[Y];rcases D with D|⟨s,G,e⟩
   .exact .inl<|.inl D
   .rcases (W s).1 G with G|G
    .exact .inl<|.inr ⟨s,G,by rw[<- tE s G];exact e⟩
    .exact .inr ⟨s,G,by rw[<- tH s G];exact e⟩
  have kI:bx w' w' (Own O' (live h') σ')<|Own E.O (live<|cw H st.heap++h') τ:=bx.less km;have hC:bx w w' (Own E.O (live st.heap) σ)<|Own E.O (live<|cw H st.heap++h') τ:=by
   refine⟨X.size,λb D hD=>X.block b λhh=>?_,λb D hD kL =>?_⟩
   .rcases hh with ⟨s,G,e⟩|hh
    .exact D<|.inr ⟨s,((K s).1 G).1,e⟩
    .omega
   .have kL :=km b kL;rw[Y]at kL;rcases kL with (kL |⟨s,G,e⟩)|⟨s,G,e⟩
    .exact D<|.inl kL
    .exact D<|.inr ⟨s,((T s).1 G).1,e⟩
    .rcases (kY.home G e).1 with ⟨N,V,e'⟩|hh
     .exact D<|.inr ⟨N,((K N).1 V).1,e'⟩
     .omega
  have xl:∀s∈cV (dZ H st.heap)++(cw H st.heap).map (·.1),live (cw H st.heap++h') s/\τ s=σ s:=λs J=>by
   rcases List.mem_append.1 J with J|J
   .have G:live h' s:=aG.1 c1 s J;exact⟨(W s).2<|.inr G,by rw[tH s G];exact kV s J G⟩
   .obtain⟨p,hp,rfl⟩:=List.mem_map.1 J;have xK :=List.mem_filter.1 hp;have G:live (cw H st.heap) p.1:=by
     have:∀(l:List<|Nat×Blk),p∈l->live l p.1:=λl=>by
      induction l with
      |nil=>intro h;cases h
      |cons q t ih =>
       intro J;by_cases e:q.1=p.1
       .exact aH.2 ⟨q.2,by rw[<- e];exact bo ..⟩
       .rcases List.mem_cons.1 J with rfl|J
        .exact absurd rfl e
        .obtain⟨b,D⟩:=aH.1<|ih J;exact aH.2 ⟨b,by rw[show q=(q.1,q.2)from rfl,bp _ _ e];exact D⟩
     exact this _ hp
    exact⟨(W _).2<|.inl G,tE _ G⟩
  have yn:∀s b,find (cw H st.heap) s=some b->du w' E.F E.O (live<|cw H st.heap++h') τ s b:=λs b D=>by
   have G:live (cw H st.heap) s:=aH.2 ⟨b,D⟩;have Z :find st.heap s=some b:=by
    rw[pJ]at D;split at D
    .exact D
    .cases D
   have yI:=aG.1 c6 _<|gj D;have hold:=I.holds.blk s b Z;refine xf hold yI (List.mem_map.2 ⟨_,gj D,rfl⟩) (λx hx=>xl x<|List.mem_append.2<|.inr hx) (λg U=>X.block g λhh=>?_) hC;have xX:dX (cw H st.heap) σ g:=⟨s,G,U⟩
   rcases hh with hh|hh
   .exact hW g xX hh
   .have:=(xm g xX).2;omega
  refine⟨τ,⟨X.os.trans I.frame.os,X.tape.trans I.frame.tape,X.output.trans I.frame.output,Nat.le_trans I.frame.size X.size,λb D=>(X.block b λhh=>D<|hF b hh).trans<|I.frame.block b D⟩,
   I.new,I.apart,?_,?_,λt=>?_,⟨λs b D=>?_,λs N b G V e e' =>?_⟩,I.gR,I.ee,λq0 B hB=>?_⟩
  .cases o.dst<;>exact I.defers
  .cases o.dst<;>simp[Act.put,I.nt]
  .show aC w' E.O (live<|cw H st.heap++h') τ (St.get (St.put ⟨uV (cV (dZ H st.heap)++(cw H st.heap).map (·.1)) st.aY,cw H st.heap++h'⟩ o.dst x []) t) _
   rw[St.gY,jV<|by rw[I.nt];exact hd];by_cases e:o.dst=some t
   .rw[if_pos e,if_pos e];exact hR.mono kI λs G=>⟨(W s).2<|.inr G,tH s G⟩
   .rw[if_neg e,if_neg e];have hr:=I.aY t;unfold St.get at hr ⊢;rw[sO];cases hf:find st.aY t with
    |none=>exact .undef _
    |some v =>
     rw[hf]at hr;dsimp only[Option.map_some];by_cases hv:iN (cV (dZ H st.heap)++(cw H st.heap).map (·.1)) v=true
     .rw[if_pos hv];exact mH hr hv hC xl
     .rw[if_neg hv];exact .undef _
  .rw[tU]at D;cases he:find (cw H st.heap) s with
   |some b' =>rw[he]at D;cases D;exact yn s _ he
   |none =>
    rw[he]at D;have G:live h' s:=aH.2 ⟨b,D⟩;exact(du.mono kI (λs G=>⟨(W s).2<|.inr G,tH s G⟩) G (λ_ _=>rfl)<|kY.blk s b D).inF λg U=>hF g (kY.home G<|by rw[<- tH s G];exact U).1
  .have key:∀s N,live (cw H st.heap) s->live h' N ->home (τ s)=some b->home (τ N)=some b->False:=λs N h1 h2 k1 k2=>by
    rw[tE s h1]at k1;rw[tH N h2]at k2;have U:dX (cw H st.heap) σ b:=⟨s,h1,k1⟩
    rcases (kY.home h2 k2).1 with hh|hh
    .exact hW b U hh
    .have:=(xm b U).2;omega
   rcases (W s).1 G with h1|h1
   .rcases (W N).1 V with h2|h2
    .exact I.holds.inj s N b ((T s).1 h1).1 ((T N).1 h2).1 (by rw[<- tE s h1];exact e) (by rw[<- tE N h2];exact e')
    .exact(key s N h1 h2 e e').elim
   .rcases (W N).1 V with h2|h2
    .exact(key N s h2 h1 e' e).elim
    .exact kY.inj s N b h1 h2 (by rw[<- tH s h1];exact e) (by rw[<- tH N h2];exact e')
  .obtain⟨f1,f2⟩:=I.fix q0 B hB;refine⟨f1,λG=>?_⟩;rcases (W q0).1 G with G|G
   .rw[tE q0 G];exact f2 ((T q0).1 G).1
   .obtain⟨b,D⟩:=aH.1 G;have J:=aG.1 c2 q0<|List.mem_map.2 ⟨_,gj D,rfl⟩;rw[aK,Bool.or_eq_true]at J;rcases J.1 with J|J
    .have:=Nat.lt_of_succ_le<|bA J;omega
    .have Z :=ll J;obtain⟨_,cells,yo⟩:=lF Z;rw[tH q0 G,kV q0 Z G];exact f2 ((K q0).1<|aH.2 ⟨_,yo⟩).1
 .exact h.elim
section
variable {cx:Cx} {st:St} {E:Env} {σ:Nat->Value} {a:Act} {w:World}
def Yh(hs:bS cx E st σ a w){size:Nat}(W:1<=size){aU:List<|List D}(Z:∀r∈aU,r.length=size/\ ∀d∈r,d.one=true){B off:Nat}
 (p3:∀i r j d,aU[i]? =some r->r[j]? =some d-> ∃v,w.cell? ⟨B,off+(i*size+j),none⟩=some v/\Rep w (Own E.O (live st.heap) σ) d v) :
 ∃G:List Value,G.length=aU.length*size/\(∀j u,G[j]? =some u->w.cell? ((⟨B,off,none⟩:Addr).add j)=some u)/\(∀u∈G,u.oneCell' =true) /\
  ∀i r j d,aU[i]? =some r->r[j]? =some d-> ∃z,G[i*size+j]? =some z/\Rep w (Own E.O (live st.heap) σ) d z:=by
 let f:Nat->Value:=λq=>(w.cell? ⟨B,off+q,none⟩).getD Go.undef
 have I:∀q,q<aU.length*size->w.cell? ⟨B,off+q,none⟩=some (f q)/\(f q).oneCell' =true:=λq H=>by
  have h1:q / size<aU.length:=Nat.div_lt_of_lt_mul (by rw[Nat.mul_comm];exact H);have N:=ao h1;have X:=Z _<|List.getElem_mem h1;have Y:q % size<(aU[q / size]).length:=by rw[X.1];exact Nat.mod_lt _ W
  obtain⟨z,K,T⟩:=p3 _ _ _ _ N<|ao Y;have U:q / size*size+q % size=q:=by rw[Nat.mul_comm];exact Nat.div_add_mod q size
  rw[U]at K;have e:f q=z:=by simp[f,K]
  rw[e];exact⟨K,T.ky<|X.2 _<|List.getElem_mem Y⟩
 refine⟨(List.range<|aU.length*size).map f,by simp,λj u J=>?_,λu hu=>?_,λi r j d V J=>?_⟩
 .have H:j<aU.length*size:=by have:=(aA.1 J).1;simpa using this
  rw[dx];have:f j=u:=by simpa [H] using J
  rw[<- this];exact(I j H).1
 .obtain⟨q,hq,rfl⟩:=List.mem_map.1 hu;exact(I q<|by simpa using hq).2
 .obtain⟨z,K,T⟩:=p3 i r j d V J;have H:i*size+j<aU.length*size:=by
   have h1:=(aA.1 V).1;have N:=(aA.1 J).1;rw[(Z r<|aw V).1]at N;have:(i+1)*size<=aU.length*size:=Nat.mul_le_mul_right _ h1;rw[Nat.add_mul]at this;omega
  refine⟨z,?_,T⟩;have:f (i*size+j)=z:=by simp[f,K]
  simp[H,this]
def PO{w:World}{R:D->Value->Prop}{e:TypeId}{size:Nat}{rows:List<|List D}{b off cap:Nat}{cur:Array Value}{ys:List Value}(W:0<size)(H:rows.length<=cap)(K:cap<=maxLen)(h1:∀r∈rows,r.length=size/\ ∀d∈r,d.one=true)
 (G:w.heap[b]? =some (.cells cur e (0,0))) (T:off+cap*size<=cur.size) (V:∀j u,ys[j]? =some u->cur[off+j]? =some u) (h:∀i r j d,rows[i]? =some r->r[j]? =some d-> ∃u,ys[i*size+j]? =some u/\R d u) :
 jQ w R e size rows (.slice (some ⟨b,off,none⟩) rows.length cap) :=
 ⟨_,cap,rfl,⟨W,H,K⟩,h1,.inr ⟨b,off,cur,rfl,G,T,λi r j d I J=>by
  obtain⟨u,U,N⟩:=h i r j d I J;exact⟨u,V _ u U,N⟩⟩⟩
def EP(hT:bC cx)(hs:bS cx E st σ a w){t e ty:TypeId}{G:TI}(kh:cD cx t=some (e,G))(hQ:1<=G.size){x:AV}{aU:List<|List D}(hx:qX st x=some (G.size,aU)){u v:Value}(hr:aC w E.O (live st.heap) σ x u)
 {rows:List<|List D} (hv:jQ w (Rep w<|Own E.O (live st.heap) σ) e G.size rows v) (kN:rows.length+aU.length<=maxLen) (xV:(rows.length+aU.length)*G.bytes<=140737488355328) :
 ∃v' w',(Builtin.append_ #[t,t] ty #[v,u]).run cx.P w= .ok v' w' /\w'.os=w.os/\w'.tape=w.tape/\w'.output=w.output/\w.heap.size<=w'.heap.size/\(∀k,k<w.heap.size->home v≠some k->w'.heap[k]? =w.heap[k]?) /\
  (∀g,home v' =some g->home v=some g\/w.heap.size<=g)/\jQ w' (Rep w<|Own E.O (live st.heap) σ) e G.size (rows++aU) v' :=by
 obtain⟨ti,ht,xc,kT⟩:=cE kh;obtain⟨_,_,_,_,t2,t3,_⟩:=hT _ _ ht;rw[xc]at t3;obtain rfl:=cd t3;obtain⟨info,desc,zv,i1,i2,i3,i4,i5,i6,i7,i8,i9,i10⟩:=hT _ _ kT;obtain⟨ad,c,rfl,p1,p2⟩:=Ge hs hx hr;have xd:rows.length+aU.length<=9223372036854775807:=by simpa [maxLen] using kN
 by_cases kJ:aU=[]
 .subst kJ;obtain⟨aa,cap,rfl,⟨k1,k2,k3⟩,k4,k5⟩:=hv;refine⟨_,w,pz cx.P w t2 i1 k2 ad c,rfl,rfl,rfl,Nat.le_refl _,λ_ _ _=>rfl,λg hg=> .inl hg,?_⟩;rw[List.append_nil];exact⟨aa,cap,rfl,⟨k1,k2,k3⟩,k4,k5⟩
 obtain⟨B,U,rfl,p3⟩:=p2 kJ;obtain⟨H,n1,n2,n3,n4⟩:=Yh hs hQ p1 p3;have kE:0<aU.length:=List.length_pos_iff.2 kJ;obtain⟨aa,cap,rfl,⟨k1,k2,k3⟩,k4,k5⟩:=hv;have X:∀r∈rows++aU,r.length=G.size/\ ∀d∈r,d.one=true:=λr hr=>by
  rcases List.mem_append.1 hr with hr|hr
  .exact k4 r hr
  .exact p1 r hr
 have yQ:zv.cells.size=G.size:=by rw[i7, <- i8]
 have W : ∀ (T : Nat) (xs : List Value), xs.length = rows.length * G.size -> (∀ i r j d, rows[i]? = some r -> r[j]? = some d -> ∃ u, xs[i * G.size + j]? = some u /\ Rep w (Own E.O (live st.heap) σ) d u) ->
     jQ (w.drew.alloc<|.cells (xs.toArray++H.toArray++Builtin.zeroCells zv.cells (grownCap w (rows.length+aU.length) T e-(rows.length+aU.length))) e) (Rep w<|Own E.O (live st.heap) σ) e G.size (rows++aU)
      (.slice (some ⟨w.heap.size,0,none⟩) (rows.length+aU.length)<|grownCap w (rows.length+aU.length) T e):=by
  intro T xs yh yP;have kx:=grownCap_ge w (rows.length+aU.length) T e;have xW:=grownCap_le_maxLen w (rows.length+aU.length) T e kN;have:=PO (w:=w.drew.alloc<|.cells (xs.toArray++H.toArray++Builtin.zeroCells zv.cells (grownCap w (rows.length+aU.length) T e-(rows.length+aU.length))) e) (R:=Rep w<|Own E.O (live st.heap) σ) (rows:=rows++aU) (b:=w.heap.size) (off:=0) (cap:=grownCap w (rows.length+aU.length) T e) (ys:=xs++H) k1 (by rw[List.length_append];exact kx) xW X (heap_alloc_new w.drew _)
   (by simp only[Array.size_append,List.size_toArray,size_zeroCells,yQ,yh,n1, <- Nat.add_mul,Nat.zero_add];exact Nat.mul_le_mul_right _<|by omega)
   (λj u J=>by
    have I:=(aA.1 J).1;rw[Nat.zero_add,Array.getElem?_append_left<|by simpa using I, <- bE];simpa using J)
   (λi r j d V J=>oR (w:=w) (w' :=w) yh (bx.refl w _) yP n4 i r j d V J)
  rw[List.length_append]at this;exact this
 rcases k5 with ⟨rfl,yp⟩|⟨g,off,cur,rfl,hg,kf,Y⟩
 .subst yp;obtain rfl:rows=[]:=List.eq_nil_of_length_eq_zero (by omega);have K:=run_append_nil (P:=cx.P) w t ty e info zv t2 i1 i6 ⟨B,U,none⟩ aU.length c H (by rw[i4];exact n1) n2 kE (by simp at xd;omega) (by rw[i5];simp at xV;omega);refine⟨_,_,K,rfl,rfl,rfl,by simp,λk hk _=>heap_alloc_old w.drew _ hk,λg hg=>by cases hg;exact .inr<|Nat.le_refl _,?_⟩;have:=W 0 [] (by simp) (λi r j d V=>by simp at V);simpa using this
 .by_cases N:rows.length+aU.length<=cap
  .have Z:rows.length*G.size+aU.length*G.size<=cap*G.size:=by rw[<- Nat.add_mul];exact Nat.mul_le_mul_right _ N
   have ka:=run_storeCells_at cx.P g (off+rows.length*G.size) e H 0 cur w hg (by rw[n1];omega) n3;simp only[Nat.add_zero]at ka;have hf:=run_firstCells_some (P:=cx.P) w G.size aU.length ⟨B,U,none⟩ aU.length c H n1 n2
   have K : (Builtin.append_ #[t, t] ty #[.slice (some ⟨g, off, none⟩) rows.length cap, .slice (some ⟨B, U, none⟩) aU.length c]).run cx.P w =
       .ok (.slice (some ⟨g,off,none⟩) (rows.length+aU.length) cap) (w.setRow g (cur.toList.take (off+rows.length*G.size)++H++cur.toList.drop (off+rows.length*G.size+H.length)).toArray):=by
    simp[Builtin.append_,run_underlying t2,Go.sizeOf,typeInfo,i1,i4,Builtin.lenOf,N,hf,dx,ka]
   refine⟨_,_,K,rfl,rfl,rfl,by simp,λk _ hk=>setRow_other w g k _ λe=>hk<|by rw[e];rfl,λg' xA => .inl xA,?_⟩;have kQ:off+rows.length*G.size<=cur.toList.length:=by rw[Array.length_toList];exact Nat.le_trans (Nat.add_le_add_left (Nat.le_trans (Nat.le_add_right _ _) Z) _) kf
   have:=PO (w:=w.setRow g (cur.toList.take (off+rows.length*G.size)++H++cur.toList.drop (off+rows.length*G.size+H.length)).toArray) (R:=Rep w<|Own E.O (live st.heap) σ) (rows:=rows++aU) (b:=g) (off:=off) (cap:=cap)
    (ys:=(List.range<|rows.length*G.size).map (λq=>cur.getD (off+q) Go.undef)++H) k1 (by rw[List.length_append];exact N) k3 X (setRow_heap w g cur _ e _ hg)
    (by simp only[List.size_toArray,List.length_append,List.length_take,List.length_drop,Array.length_toList];rw[n1];omega)
    (λj u J=>by
     rw[List.getElem?_toArray];by_cases I:j<rows.length*G.size
     .rw[dm<|by simpa using I]at J;have hu:cur.getD (off+j) Go.undef=u:=by simpa [I] using J
      rw[dm<|by simp;omega,dm<|by simp;omega,List.getElem?_take_of_lt<|by omega,bE, <- hu];have hc:off+j<cur.size:=by omega
      simp[hc]
     .rw[cL<|by simpa using Nat.le_of_not_lt I]at J;simp only[au,List.length_range]at J;have yY:=(aA.1 J).1;have xS:(cur.toList.take<|off+rows.length*G.size).length=off+rows.length*G.size:=by rw[List.length_take];omega
      rw[dm<|by rw[List.length_append,xS];omega,cL<|by rw[xS];omega,xS, <- J]
      congr 1;omega)
    (λi r j d V J=>oR (w:=w) (w' :=w) (by simp) (bx.refl w _) (λi r j d V J=>by
     obtain⟨u,hu,hd⟩:=Y i r j d V J;have h1:=(aA.1 V).1;have h2:=(aA.1 J).1;rw[(k4 r<|aw V).1]at h2;have h3:(i+1)*G.size<=rows.length*G.size:=Nat.mul_le_mul_right _ h1;rw[Nat.add_mul]at h3;have I:i*G.size+j<rows.length*G.size:=by omega
     refine⟨u,?_,hd⟩;have:cur.getD (off+(i*G.size+j)) Go.undef=u:=by rw[bU,hu];rfl
     rw[bc,List.getElem?_range I];exact congrArg some this) n4 i r j d V J)
   rw[List.length_append]at this;exact this
  .have Z:rows.length*G.size<=cap*G.size:=Nat.mul_le_mul_right _ k2;have holds:∀j u,((List.range<|rows.length*G.size).map λq=>cur.getD (off+q) Go.undef)[j]? =some u->w.cell? ((⟨g,off,none⟩:Addr).add j)=some u:=λj u J=>by
    have I:j<rows.length*G.size:=by have:=(aA.1 J).1;simpa using this
    rw[dx];have hu:cur.getD (off+j) Go.undef=u:=by simpa [I] using J
    have hc:off+j<cur.size:=by omega
    rw[<- hu];simp[World.cell?,hg,hc]
   have K:=run_append_grow (P:=cx.P) w t ty e info zv t2 i1 i6 ⟨g,off,none⟩ rows.length cap _ (by rw[i4];simp) holds ⟨B,U,none⟩ aU.length c H (by rw[i4];exact n1) n2 (by omega) (by omega) (by rw[i5];exact growslice_fits (by omega) xV);refine⟨_,_,K,rfl,rfl,rfl,by simp,λk hk _=>heap_alloc_old w.drew _ hk,λg' xA =>by cases xA;exact .inr<|Nat.le_refl _,?_⟩;refine W cap _ (by simp) λi r j d V J=>?_
   obtain⟨u,hu,hd⟩:=Y i r j d V J;have h1:=(aA.1 V).1;have h2:=(aA.1 J).1;rw[(k4 r<|aw V).1]at h2;have h3:(i+1)*G.size<=rows.length*G.size:=Nat.mul_le_mul_right _ h1;rw[Nat.add_mul]at h3;have I:i*G.size+j<rows.length*G.size:=by omega
   refine⟨u,?_,hd⟩;have:cur.getD (off+(i*G.size+j)) Go.undef=u:=by rw[bU,hu];rfl
   rw[bc,List.getElem?_range I];exact congrArg some this
def CO(cx:Cx)(st:St)(t:TypeId)(s:Nat)(x:AV)(k:AV->List (Nat×AV)->List (Nat×Blk)->Prop):Prop :=
 match cD cx t,find st.heap s,qX st x with
 |some (e,j),some (.tail G sz rows),some (D,aU)=>(match Nat.ble 1 j.size,Nat.beq e G,Nat.beq j.size sz,Nat.beq D j.size with
  |true,true,true,true=>rows.length+aU.length<=9223372036854775807/\(rows.length+aU.length)*j.bytes<=140737488355328/\k (.own s) (jo s st.aY) ((s,.tail G sz<|rows++aU)::fG s st.heap)
  |_,_,_,_=>False)
 |_,_,_=>False
def Sl(hT:bC cx){o:Oper}{s x:Operand}{t:TypeId}(ho:o.op= .call {callee:= .builtin .append,args:= #[s,x],argTypes:= #[t,t]}){j:Nat}(Y:st.ev cx s= .own j){k:AV->List (Nat×AV)->List (Nat×Blk)->Prop}
 (h:CO cx st t j (kO cx t<|st.ev cx x) k):∃v sl hp,lW cx o st ⟨bW sl o.dst v,hp⟩/\k v sl hp:=by
 have D:∀(a:Act) (w:World) {z:Value} {w' :World},(Builtin.append_ #[t,t] o.type #[a.eval s,a.eval x]).run cx.P w= .ok z w' ->(execOp a.eval o).run cx.P w= .ok (.value z) w' :=λa w z w' hh=>by
  simp[execOp,ho,resolve,invoke,builtin,hh]
 unfold CO at h;split at h
 .rename_i e V U sz rows yT aU X hf K;split at h
  .rename_i c1 c2 c3 c4;have Z:1<=V.size:=bA c1;obtain rfl:e=U :=bg c2;obtain rfl:V.size=sz:=bg c3;obtain rfl:yT=V.size:=bg c4;obtain⟨b1,b2,hk⟩:=h;refine⟨_,_,_,λE a w Q hd ⟨σ,I⟩=>?_,hk⟩;have H:=I.ev (St.le.refl st) s;rw[Y]at H;have W:=kP (cx:=cx) (t:=t)<|I.ev (St.le.refl st) x;obtain⟨o1,o2⟩:=I.holds.blk j _ hf;have hl:live st.heap j:=aH.2 ⟨_,hf⟩;obtain⟨v',w',r1,q1,q2,q3,q4,q5,q6,q7⟩:=EP (ty:=o.type) hT I X Z K W o1 (by simpa [maxLen] using b1) b2;have N :a.eval s=σ j:=by generalize a.eval s=u at H;cases H;rfl
   rw[<- N]at r1;simp only[Oper.wp,D a w r1,Oper.upon];refine I.LI (τ:=v') hd hl (λaa e=>by obtain⟨_,_,U,_⟩:=o1;rw[U]at e;cases e) q1 q2 q3 q4 q5 q6 (λσ' T G=>?_) λσ' T=>?_
   .refine⟨?_,λb J=>?_⟩
    .rw[T];exact q7.mono (λ_ _=>rfl) λ_ _ hr=>hr.mono G
    .rw[T]at J;rcases q6 b J with J|J
     .exact o2 b J
     .exact I.new b<|Nat.le_trans I.frame.size J
   .have:=aC.own (w:=w') (O:=E.O) (σ:=σ') j hl;rw[T]at this;exact this
  .exact h.elim
 .exact h.elim
def rowsOf:Option Blk->Option (TypeId×Nat×List (List D))
 |some (.row e sz rows _)=>some (e,sz,rows)
 |some (.tail e sz rows)=>some (e,sz,rows)
 |_=>none
def CP(cx:Cx)(st:St)(t:TypeId)(s:Nat)(D:AV)(k:AV->List (Nat×AV)->List (Nat×Blk)->Prop):Prop :=
 match cD cx t,rowsOf (find st.heap s),D with
 |some (_,j),some (e,sz,rows),.d (.int _ n)=>(match Nat.beq j.size sz with
  |true=>(0<=n/\n.toNat<=rows.length)/\k (.own s) (jo s st.aY) ((s,.tail e sz<|rows.drop n.toNat)::fG s st.heap)
  |false=>False)
 |_,_,_=>False
def Oa{F:Nat->Prop}{O L:Nat->Prop}{s:Nat}{b:Blk}{e:TypeId}{sz:Nat}{rows:List<|List D}(h:rowsOf (some b)=some (e,sz,rows))(I:du w F O L σ s b):jQ w (Rep w<|Own O L σ) e sz rows (σ s)/\ ∀g,home (σ s)=some g->F g:=by
 cases b with
 |row N s0 r0 fl =>
  cases h;obtain⟨xs,o1,o2,J,K,o5⟩:=I;refine⟨?_,o2⟩;rcases o1.2 with ⟨H,T⟩|⟨g,cap,cur,H,_,U,V,W,e6,X⟩
  .exact⟨none,0,by rw[H,T],⟨J.1,by omega,Nat.zero_le _⟩,K,.inl ⟨rfl,rfl⟩⟩
  .refine⟨_,cap,H,⟨J.1,V,W⟩,K,.inr ⟨g,0,cur,rfl,U,by omega,λi r j d Z hj=>?_⟩⟩;obtain⟨u,G,Y⟩:=o5 i r j d Z hj;refine⟨u,?_,Y⟩;rw[<- X,List.getElem?_take]at G;split at G
   .rw[Nat.zero_add];simpa using G
   .cases G
 |tail N s0 r0=>cases h;exact I
 |_=>cases h
def Sm(hT:bC cx){o:Oper}{t:TypeId}{x lo:Operand}(ho:o.op= .slice t x (some lo) none none){D:Nat}(hx:st.ev cx x= .own D){k:AV->List (Nat×AV)->List (Nat×Blk)->Prop}
 (h:CP cx st t D (st.ev cx lo) k):∃v sl hp,lW cx o st ⟨bW sl o.dst v,hp⟩/\k v sl hp:=by
 unfold CP at h;split at h
 .rename_i e0 I e sz rows ki n kh hf yE;split at h
  .rename_i hQ;obtain rfl:I.size=sz:=bg hQ;obtain⟨⟨h0,hn⟩,hk⟩:=h;refine⟨_,_,_,λE a w Q hd ⟨σ,hs⟩=>?_,hk⟩;have K:=hs.ev (St.le.refl st) x;rw[hx]at K;have V:=hs.ev (St.le.refl st) lo;rw[yE]at V;obtain⟨b,hb⟩:∃b,find st.heap D=some b:=by
    cases hfb:find st.heap D with
    |none=>rw[hfb]at hf;cases hf
    |some b=>exact⟨b,rfl⟩
   rw[hb]at hf;have hl:live st.heap D:=aH.2 ⟨_,hb⟩;obtain⟨⟨N,cap,Y,⟨k1,k2,k3⟩,k4,k5⟩,o2⟩:=Oa hf<|hs.holds.blk D _ hb;have X :a.eval x=σ D:=by generalize a.eval x=u at K;cases K;rfl
   obtain⟨ti,ht,xc,kT⟩:=cE kh;obtain⟨_,_,_,_,t2,t3,_⟩:=hT _ _ ht;rw[xc]at t3;obtain rfl:=cd t3;obtain⟨_,r2⟩:=dU (w:=w) hT kT;have yH:n<=rows.length:=by omega
   have W:(execOp a.eval o).run cx.P w= .ok (.value (.slice (if cap=n.toNat then N else N.map (·.add (n.toNat*I.size))) (rows.length-n.toNat)<|cap-n.toNat)) w:=by
    simp[execOp,ho,X,Y,V.int,Instr.sliceAt,Instr.slice,Instr.sliceBounds,Instr.sliceBound,run_underlying t2,asIntOf,h0,yH,r2]
   simp only[Oper.wp,W,Oper.upon];have U:(rows.drop n.toNat).length=rows.length-n.toNat:=List.length_drop;refine hs.LI (τ:= .slice (if cap=n.toNat then N else N.map (·.add (n.toNat*I.size))) (rows.length-n.toNat)<|cap-n.toNat) hd hl (λN e=>by rw[Y]at e;cases e) rfl rfl rfl (Nat.le_refl _) (λ_ _ _=>rfl) (λg G=>?_) (λσ' H J=>?_) λσ' H =>?_
   .refine .inl ?_;rw[Y];rcases k5 with ⟨rfl,_⟩|⟨Z,off,cur,rfl,_⟩
    .split at G<;>cases G
    .split at G
     .exact G
     .simp only[Option.map_some,dx]at G;exact G
   .have xB:∀g,home (σ' D)=some g->E.F g:=λg G=>by
     refine o2 g ?_;rw[H ]at G;rw[Y];rcases k5 with ⟨rfl,_⟩|⟨Z,off,cur,rfl,_⟩
     .split at G<;>cases G
     .split at G
      .exact G
      .simp only[Option.map_some,dx]at G;exact G
    refine⟨?_,xB⟩;rw[H];refine⟨_,_,by rw[U],⟨k1,by omega,by omega⟩,λr hr=>k4 r<|List.mem_of_mem_drop hr,?_⟩;rcases k5 with ⟨rfl,hc⟩|⟨Z,off,cur,rfl,q1,q2,q3⟩
    .exact .inl ⟨by split<;>rfl,by omega⟩
    .by_cases T:cap=n.toNat
     .rw[if_pos T];refine .inr ⟨Z,off,cur,rfl,q1,by(have:cap-n.toNat=0:=by omega);rw[this];omega,λi r j d hi hj=>?_⟩;have h1:=(aA.1 hi).1;rw[U]at h1;omega
     .rw[if_neg T];simp only[Option.map_some,dx];have xW:n.toNat*I.size+(cap-n.toNat)*I.size=cap*I.size:=by rw[<- Nat.add_mul];congr 1;omega
      refine .inr ⟨Z,off+n.toNat*I.size,cur,rfl,q1,by omega,λi r j d hi hj=>?_⟩;rw[List.getElem?_drop]at hi;obtain⟨u,hu,hd⟩:=q3 _ r j d hi hj;refine⟨u,?_,hd.mono J⟩;rw[<- hu,Nat.add_mul]
      congr 1;omega
   .have:=aC.own (w:=w) (O:=E.O) (σ:=σ') D hl;rw[H]at this;exact this
  .exact h.elim
 .exact h.elim
end
def RY:AV->Bool
 | .d _=>true
 | .nil _=>true
 |_=>false
def Zc:AV->Bool
 | .agg cs=>cs.all RY
 |v=>RY v
def FnC(cx:Cx)(f:FuncId)(args:List AV){ι:Type}(res:ι->AV)(bs:ι->List (Nat×Blk)):Prop :=
 im cx.P f/\ ∀(O:Nat->Prop) (w:World) (vs:Array Value),(∀b,O b->b<w.heap.size)->jO cx w->(∀g cells,cx.gl g=some cells-> ¬O g)->vs.size=args.length ->
  (∀(j:Nat) c,args[j]? =some c->aC w O (λ_=>False) (λ_=> .nilFunc) c (vs.getD j Go.undef)) ->
  Calls cx.P f vs w λe w' => ∃i u τ,e= .returned u/\Below w.heap.size w w' /\Holds w' (w.heap.size<= ·) O (bs i) τ/\aC w' O (live<|bs i) τ (res i) u
def Hl{w:World}{O L:Nat->Prop}{σ:Nat->Value}{c:AV}{u:Value}(D:RY c=true)(h:aC w O L σ c u):aC w (Own O L σ) (λ_=>False) (λ_=> .nilFunc) c u:=by
 cases h with
 | d x v h => exact .d _ _ (h.mono (bx.less fun b j => by
     rcases j with j|⟨s,hl,_⟩
     .exact j
     .exact hl.elim))
 |nil=>exact .nil _
 |_=>cases D
def Yb{w:World}{O L:Nat->Prop}{σ:Nat->Value}{c:AV}{u:Value}(D:Zc c=true)(h:aC w O L σ c u):aC w (Own O L σ) (λ_=>False) (λ_=> .nilFunc) c u:=by
 cases c with
 |agg cs=>cases h with|agg _ vs I H=>exact .agg _ _ I λj c G=>Hl (aG.1 D c<|aw G)<|H j c G
 |_=>exact Hl D h
def Ef(cx:Cx)(st:St)(o:Oper):Option (FuncId×List AV) :=
 match o.op with
 | .call c=>(match c.callee with
  | .value f=>(match callee (st.ev cx f)with
   |some (g,a,b)=>(match Nat.beq (cx.chg g) 7,(a++cA cx st c.args.toList c.argTypes.toList++b).all Zc with
    |true,true=>some (g,a++cA cx st c.args.toList c.argTypes.toList++b)
    |_,_=>none)
   |none=>none)
  |_=>none)
 |_=>none
section
variable {cx:Cx} {st:St} {nt:Nat}
def aay{o:Oper}{g:FuncId}{as:List AV}(hp:Ef cx st o=some (g,as)){ι:Type}{res:ι->AV}{bs:ι->List (Nat×Blk)}(kq:FnC cx g as res bs)(kg:∀i,xH (bs i)=true)(V:∀i s,live (bs i) s-> ¬live st.heap s)
 (E:Env) (a:Act) (w:World) (Q:Exit->Act->World->Prop) (hd:∀e,o.dst=some e->e<E.nt) (J:Sim cx E st a w):o.wp cx.P a w (λa' w' => ∃i,Sim cx E (st.put o.dst (res i)<|bs i) a' w') Q:=by
 unfold Ef at hp;split at hp
 case h_2=>cases hp
 rename_i c ho;split at hp
 case h_2=>cases hp
 rename_i f hc;split at hp
 case h_2=>cases hp
 rename_i g' xs ys hg;split at hp
 case h_2=>cases hp
 rename_i _ Y;cases hp;obtain⟨σ,J⟩:=J;obtain⟨us,vs,hu,s1,s2,r1,r2⟩:=qd hg<|J.ev (St.le.refl st) f;obtain⟨l1,l2⟩:=jB (St.le.refl st) J c.args.toList c.argTypes.toList;obtain⟨⟨fn,kd,ke,hN⟩,X⟩:=kq;have hE :¬fn.name= "runtime.NumGoroutine" :=by simpa using ke
 have hI :¬fn.body=none:=by intro e;rw[e]at hN;cases hN
 have hA:(execOp a.eval o).run cx.P w= .ok (.enter g<|us++c.args.map a.eval++vs) w:=by
  simp[execOp,ho,resolve,hc,hu,Deferred.ofValue,invoke,callFunc,kd,hE,hI]
 have hM:=qC (R:=aC w E.O (live st.heap) σ) (A:=xs) (B:=cA cx st c.args.toList c.argTypes.toList) (C:=ys) (ys:=c.args.map a.eval) s1 (by simp[l1]) r1 (λj cc hj=>by
  obtain⟨x,hx,hr⟩:=l2 j cc hj;have:(c.args.map a.eval).getD j Go.undef=a.eval x:=by rw[bE]at hx;simp[hx]
  rw[this];exact hr) r2
 have U:=X (Own E.O (live st.heap) σ) w (us++c.args.map a.eval++vs) (λb H=>J.sW b H) J.qj (λg cells hP=>J.tz hP) (by simp[s1,s2,l1])
  (λj cc hj=>Yb (aG.1 Y cc<|aw hj)<|hM j cc hj)
 simp only[Oper.wp,hA,Oper.upon];refine U.mono λe w' =>?_
 rintro⟨i,u,τ,rfl,xw,G,hr⟩;dsimp only;refine⟨i,?_⟩
 classical
 let σ' :Nat->Value:=λs=>if live (bs i) s then τ s else σ s
 have e1:∀s,live (bs i) s->σ' s=τ s:=λs D=>if_pos D
 have e2:∀s,live st.heap s->σ' s=σ s:=λs D=>if_neg λH=>V i s H D
 have I:bx w' w' (Own (Own E.O (live st.heap) σ) (live<|bs i) τ)<|Own E.O (live<|bs i++st.heap) σ':=bx.less λb H=>by
  rcases H with H|⟨s,D,e⟩
  .exact .inl<|.inl H
  .rcases cP.1 D with D|D
   .rw[e1 s D]at e;exact .inr ⟨s,D,e⟩
   .rw[e2 s D]at e;exact .inl<|.inr ⟨s,D,e⟩
 have kl:∀s,live (bs i) s->live (bs i++st.heap) s/\σ' s=τ s:=λs D=>⟨cP.2<|.inl D,e1 s D⟩
 refine⟨σ',J.grow hd e2 xw (λq0 B hB D=>by have:=FI (kg i) _ D;have:=(J.fix q0 B hB).1.2;omega) (λs b D e=>?_) (λs s' b D kC e e' =>?_) (λs b H=>?_)<|hr.mono I kl⟩
 .rw[e1 s D]at e;exact(G.home D e).1
 .rw[e1 s D]at e;rw[e1 s' kC]at e';exact G.inj s s' b D kC e e'
 .have D:live (bs i) s:=aH.2 ⟨b,H⟩;have:=(G.blk s b H).mono I kl D λg _=>rfl;have W:∀b,w.heap.size<=b->E.F b:=λb H=>J.new b<|Nat.le_trans J.frame.size H
  cases b with
  |box cells=>obtain⟨b,cur,t,K,N,T⟩:=this;exact⟨b,cur,t,K,W _ N,T⟩
  |row e size rows fl=>obtain⟨xs,K,N,T⟩:=this;exact⟨xs,K,λb H=>W _<|N b H,T⟩
  |smap m=>obtain⟨b,es,Z,K,N,T⟩:=this;exact⟨b,es,Z,K,W _ N,T⟩
  |cS m=>obtain⟨b,es,Z,K,N,T⟩:=this;exact⟨b,es,Z,K,W _ N,T⟩
  |fb e size rows=>obtain⟨b,cur,t,K,N,T⟩:=this;exact⟨b,cur,t,K,W _ N,T⟩
  |tail e size rows=>exact⟨this.1,λb H=>W _<|this.2 b H⟩
  |iter left cur=>exact⟨this.1,λb H=>W _<|this.2 b H⟩
  |dR m=>obtain⟨b,es,Z,K,N,T⟩:=this;exact⟨b,es,Z,K,W _ N,T⟩
end

