/-
  Merged texts.
-/
import Derived.Test.YtodofogcincleaaGreatDoorMQea
import Derived.Laws.Concat
set_option linter.all false
namespace NQ
open Go Go.RowKit
section
variable {cx:Cx} {st:St} {k:KK}
theorem bN.nJ{E:Env}{σ:Nat->Value}{a:Act}{w:World}(h:bN cx E st σ a w):jC cx w:=λg cells hg=>by
 obtain⟨h1,h2,h3⟩:=h.fI g cells hg;obtain⟨hF,_⟩:=h.dQ g cells hg;refine⟨Nat.lt_of_lt_of_le h1 h.frame.size,h2,λj d hj=>?_⟩;obtain⟨u,hu,hr⟩:=h3 j d hj;exact⟨u,by rw[World.cell?_of_block (a:=⟨g,j,none⟩) (h.frame.block g hF)];exact hu,hr.fG (aI.1 h2 d (aD hj))⟩
theorem bN.pX{E:Env}{σ:Nat->Value}{a:Act}{w:World}(h:bN cx E st σ a w)(b:Nat)(hb:Own E.O (live st.heap) σ b):b<w.heap.size:=by
 rcases hb with hb|⟨s,hs,e⟩
 .rcases Nat.lt_or_ge b E.w0.heap.size with hl|hg
  .exact Nat.lt_of_lt_of_le hl h.frame.size
  .exact absurd (h.new b hg) (h.apart b hb)
 .exact(h.holds.home hs e).2
theorem bN.qo{E:Env}{σ:Nat->Value}{a:Act}{w:World}(h:bN cx E st σ a w){g:Nat}{cells:List D}(hg:cx.gl g=some cells):¬Own E.O (live st.heap) σ g:=by
 obtain⟨hF,hO⟩:=h.dQ g cells hg;rintro(hb|⟨s,hs,e⟩)
 .exact hO hb
 .exact hF (h.holds.home hs e).1
theorem iB{E:Env}{st' :St}{σ:Nat->Value}{a:Act}{w:World}(hle:st.le st')(hs:bN cx E st' σ a w):∀(xs:List Operand) (ts:List TypeId),(cz cx st xs ts).length=xs.length /\
 ∀(j:Nat) c,(cz cx st xs ts)[j]? =some c-> ∃x,xs[j]? =some x/\aG w E.O (live st'.heap) σ c (a.eval x)
 |[],ts=>⟨rfl,λj c h=>by simp[cz]at h⟩
 |x::xs,t::ts=>by
  obtain⟨h1,h2⟩:=iB hle hs xs ts;refine⟨by simp[cz,h1],λj c hj=>?_⟩;cases j with
  |zero=>simp[cz]at hj;subst hj;exact⟨x,rfl,jv (hs.ev hle x)⟩
  |succ j=>simp[cz]at hj;simpa using h2 j c hj
 |x::xs,[]=>by
  obtain⟨h1,h2⟩:=iB hle hs xs [];refine⟨by simp[cz,h1],λj c hj=>?_⟩;cases j with
  |zero=>simp[cz]at hj;subst hj;exact⟨x,rfl,hs.ev hle x⟩
  |succ j=>simp[cz]at hj;simpa using h2 j c hj
theorem nD{w:World}{O L:Nat->Prop}{σ:Nat->Value}{f:AV}{g:FuncId}{xs ys:List AV}(h:callee f=some (g,xs,ys)){u:Value}(hr:aG w O L σ f u) :
 ∃us vs,u= .func (.func g) us vs/\us.size=xs.length/\vs.size=ys.length/\(∀j c,xs[j]? =some c->aG w O L σ c (us.getD j Go.undef))/\(∀j c,ys[j]? =some c->aG w O L σ c (vs.getD j Go.undef)):=by
 unfold callee at h;split at h
 .rename_i g0 first xn
  cases h;cases hr with|d _ _ hr=>cases hr with|fn _ _ _ us vs hx hl h1 h2 _ =>
   refine⟨us,vs,rfl,by simpa using hx,by simpa using hl,λj c hj=>?_,λj c hj=>?_⟩
   .rw[bc]at hj;cases hd:first[j]? with
    |none=>rw[hd]at hj;cases hj
    |some y=>rw[hd]at hj;cases hj;exact .d _ _ (h1 j y hd)
   .rw[bc]at hj;cases hd:xn[j]? with
    |none=>rw[hd]at hj;cases hj
    |some y=>rw[hd]at hj;cases hj;exact .d _ _ (h2 j y hd)
 .cases h;cases hr with|fn f first xn us vs hx hl h1 h2=>exact⟨us,vs,rfl,hx,hl,h1,h2⟩
 .cases h
theorem Nb{w w' :World}{O O' L L' :Nat->Prop}{σ σ' :Nat->Value}{c:AV}{v:Value}(h:aG w O L σ c v)(hf:Na c=true):aG w' O' L' σ' c v:=by
 cases h <;> first|(rename_i h;exact .d _ _ (h.fG hf))|cases hf
theorem CI{w w' :World}{O O' L L' :Nat->Prop}{σ σ' :Nat->Value}{c:AV}{v:Value}(h:aG w O L σ c v)(hf:Fq c=true):aG w' O' L' σ' c v:=by
 cases h with
 |d x v h=>exact .d _ _ (h.flat hf)
 |agg cs vs hl hh=>exact .agg _ _ hl λj c hj=>Nb (hh j c hj) (aI.1 hf c (aD hj))
 |_=>cases hf
theorem CJ{w w' :World}{O O' L L' :Nat->Prop}{σ σ' :Nat->Value}{c:AV}{v:Value}(h:aG w O L σ c v)(hf:KC c=true):aG w' O' L' σ' c v:=by
 cases c with
 |tuple vs =>
  cases h with|tuple _ us hl hh=>exact .tuple _ _ hl λj c hj=>CI (hh j c hj) (aI.1 hf c (aD hj))
 |_=>exact CI h hf
theorem kL{f g:AV->Option D}(h:∀c x,f c=some x->g c=some x):∀{l:List AV} {r:List D},cA f l=some r->cA g l=some r
 |[],r,e=>e
 |c::t,r,e=>by
  simp only[cA]at e ⊢;split at e
  .rename_i x xs h1 h2;rw[h _ _ h1,kL h h2];exact e
  .cases e
theorem Bt{st' :St}(hle:st.le st')(c:AV)(x:D)(h:kK st c=some x):kK st' c=some x:=by
 cases c <;> try exact h
 case omap s =>
  simp only[kK]at h ⊢;split at h
  .rename_i hf;rw[hle.heap _ _ hf];exact h
  .rename_i hf;rw[hle.heap _ _ hf];exact h
  .cases h
 simp only[kK]at h ⊢;split at h
 .rename_i hf;rw[hle.heap _ _ hf];exact h
 .cases h
theorem kM{st' :St}(hle:st.le st')(c:AV)(x:D)(h:gi st c=some x):gi st' c=some x:=by
 cases c <;> simp only[gi]at h ⊢ <;> try exact Bt hle _ x h
 split at h
 .rename_i hf;rw[hle.heap _ _ hf];dsimp only;split at h
  .rename_i h1;rw[kL (Bt hle) h1];exact h
  .cases h
 .cases h
theorem Ma{st' :St}(hle:st.le st')(c:AV)(x:D)(h:oc st c=some x):oc st' c=some x:=by
 cases c <;> simp only[oc]at h ⊢ <;> try exact kM hle _ x h
 split at h
 .rename_i h1 h2;rw[kL (kM hle) h1,kL (kM hle) h2];exact h
 .cases h
theorem LZ{st' :St}(hle:st.le st')(c:AV)(x:D)(h:lD st c=some x):lD st' c=some x:=by
 cases c with
 |ptr s off =>
  have e:mI st' s off=mI st s off\/mI st s off=none/\gi st (.ptr s off)=none:=by
   unfold mI;cases hf:find st.heap s with
   |some b=>left;rw[hle.heap _ _ hf]
   |none =>
    right
    refine⟨by cases off <;> rfl,?_⟩;simp only[gi];rw[hf]
  simp only[lD]at h ⊢;rcases e with e|⟨e,e2⟩
  .rw[e];split at h
   .split at h
    .rename_i y hy;rw[Ma hle _ _ hy];exact h
    .cases h
   .exact kM hle _ x h
  .rw[e]at h;exact absurd (e2.symm.trans h) (by simp)
 |_=>(simp only[lD]at h ⊢;exact kM hle _ x h)
theorem Bu{st' :St}(hle:st.le st')(c:AV)(x:D)(h:jL st c=some x):jL st' c=some x:=by
 cases c <;> simp only[jL]at h ⊢ <;> try exact kM hle _ x h
 split at h
 .rename_i h1 h2;rw[kL (kM hle) h1,kL (LZ hle) h2];exact h
 .cases h
theorem LY{st' :St}(hle:st.le st')(c:AV)(x:D)(h:gU st c=some x):gU st' c=some x:=by
 cases c <;> simp only[gU]at h ⊢ <;> try exact Bu hle _ x h
 split at h
 .rename_i h1;rw[kL (Bu hle) h1];exact h
 .cases h
theorem nX{xs ys zs:Array Value}{A B C:List AV}(h1:xs.size=A.length)(h2:ys.size=B.length){R:AV->Value->Prop}(r1:∀j c,A[j]? =some c->R c (xs.getD j Go.undef))
 (r2:∀j c,B[j]? =some c->R c (ys.getD j Go.undef)) (r3:∀j c,C[j]? =some c->R c (zs.getD j Go.undef)) (j:Nat) (c:AV) (h:(A++B++C)[j]? =some c):R c ((xs++ys++zs).getD j Go.undef):=by
 by_cases l1:j<A.length
 .rw[List.append_assoc,cU l1]at h;have:=r1 j c h
  rwa [show(xs++ys++zs).getD j Go.undef=xs.getD j Go.undef by simp[Array.getElem?_append,show j<xs.size+ys.size by omega,show j<xs.size by omega]]
 .by_cases l2:j<A.length+B.length
  .rw[cU (by simp;omega),cL (by omega)]at h;have:=r2 _ c h
   rwa [show(xs++ys++zs).getD j Go.undef=ys.getD (j-A.length) Go.undef by simp[Array.getElem?_append,show j<xs.size+ys.size by omega,h1,h2,show ¬j<A.length by omega,show j-A.length<B.length by omega]]
  .rw[cL (by simp;omega)]at h;have:=r3 _ c h
   rwa [show(xs++ys++zs).getD j Go.undef=zs.getD (j-(A++B).length) Go.undef by simp[Array.getElem?_append,show ¬j<xs.size+ys.size by omega,h1,h2,show ¬j<A.length by omega,show ¬j-A.length<B.length by omega,Nat.sub_sub]]
theorem UU{o:Oper}{c:Call}{f:Operand}(ho:o.op= .call c)(hc:c.callee= .value f)(h:fnK cx st (st.ev cx f) (cz cx st c.args.toList c.argTypes.toList) k):∃v bs,cV cx o st v bs/\k v bs:=by
 unfold fnK at h;split at h
 .rename_i g xs ys hg
  have enter : ∀ (E : Env) st' σ a w, st.le st' -> bN cx E st' σ a w -> gq cx.P g -> ∃ hE, (execOp a.eval o).run cx.P w = .ok (.enter g hE) w /\ hE.size = (xs ++ cz cx st c.args.toList c.argTypes.toList ++ ys).length /\
      ∀(j:Nat) cc,(xs++cz cx st c.args.toList c.argTypes.toList++ys)[j]? =some cc->aG w E.O (live st'.heap) σ cc (hE.getD j Go.undef):=by
   intro E st' σ a w hle hs hY;obtain⟨us,vs,hu,s1,s2,r1,r2⟩:=nD hg (hs.ev hle f);obtain⟨l1,l2⟩:=iB hle hs c.args.toList c.argTypes.toList;obtain⟨fn,xu,xv,kI⟩:=hY;refine⟨us++c.args.map a.eval++vs,?_,?_,nX s1 (by simp[l1]) r1 (λj cc hj=>?_) r2⟩
   .have kp :¬fn.name= "runtime.NumGoroutine" :=by simpa using xv
    have kq :¬fn.body=none:=by intro e;rw[e]at kI;cases kI
    simp[execOp,ho,resolve,hc,hu,Deferred.ofValue,invoke,callFunc,xu,kp,kq]
   .simp[s1,s2,l1]
   .obtain⟨x,hx,hr⟩:=l2 j cc hj;have:(c.args.map a.eval).getD j Go.undef=a.eval x:=by rw[bx]at hx;simp[hx]
    rw[this];exact hr
  split at h
  .unfold ia at h;split at h
   .rename_i s rest kn;split at h
    .rename_i cs ds hf kF;split at h
     .rename_i cells hX;obtain⟨v,kl,hk⟩:=h;refine⟨v,[],cV.Ej (by rw[ho];simp[lR,hc]) λE st' a w Q hle hd kg ⟨σ,hs⟩=>?_,hk⟩;obtain⟨hE,hC,hV,hW⟩:=enter E st' σ a w hle hs kl.1;rw[kn]at hW hV;have yT :=hle.heap s _ hf;obtain⟨B,cur,t,e1,e2,e3,e4,e5⟩:=hs.holds.blk s _ yT;have hl:live st'.heap s:=aH.2 ⟨_,yT⟩;have h0:hE.getD 0 Go.undef= .pointer (some ⟨B,0,none⟩):=by
       have:=hW 0 _ rfl;generalize hE.getD 0 Go.undef=u at this;cases this with|ptr _ _ b hL hσ=>rw[hσ]at e1;cases e1;rfl
      have kE:hE= #[.pointer (some ⟨B,0,none⟩)]++hE.extract 1 hE.size:=by
       apply Array.ext
       .simp at hV ⊢;omega
       .intro i h1 h2;rcases i with _|i
        .have:hE[0]=hE.getD 0 Go.undef:=by simp[h1]
         rw[this,h0];simp
        .simp[Array.getElem_append]
         congr 1;omega
      obtain⟨k1,k2⟩:=cD kF;obtain⟨q1,q2⟩:=cD hX;have hI:=kl.2 (Own E.O (live st'.heap) σ) w B cur t (hE.extract 1 hE.size) (λb hb=>hs.pX b hb) hs.nJ (λg cells kJ=>hs.qo kJ) (.inr ⟨s,hl,by rw[e1];rfl⟩) e3 (by rw[e4,q1])
       (λj d hj=>by
        obtain⟨cc,kd,kr⟩:=q2 j d hj;have yO:cc= .d d:=by cases cc <;> simp[Lf]at kr;rw[kr]
        subst yO;refine⟨?_,?_⟩
        .rcases (e5 j _ kd).1 with h1|h1
         .exact h1
         .cases h1
        .have:=(e5 j _ kd).2;cases this with|d _ _ h=>exact h)
       (by simp at hV ⊢;omega)
       (λj d hj=>by
        obtain⟨cc,kd,yp⟩:=k2 j d hj;have hr:=hW (j+1) cc (by simpa using kd);have hD:j+1<hE.size:=by rw[hV];have:=(aB.1 kd).1;simp;omega
        have:(hE.extract 1 hE.size).getD j Go.undef=hE.getD (j+1) Go.undef:=by
         simp[bM,Array.getElem?_extract,hD,show j<hE.size-1 by omega,Nat.add_comm]
        rw[this];exact jr yp hr)
      rw[<- kE]at hI;simp only[Oper.wp,hC,Oper.upon];refine hI.mono λen w' =>?_
      rintro⟨u,xp,t',rfl,p1,p2,p3,p4,p5,p6,p7,p8,p9⟩;dsimp only;have xL:bw w' w' (Own (Own E.O (live st'.heap) σ) (λ_=>False) (λ_=>Value.nilFunc)) (Own E.O (live st'.heap) σ):=bw.less λb hb=> .inl hb
      refine⟨σ,hs.Vd hd hl (by rw[e1];rfl) p1 p2 p3 p4 p5 (λb hb=>?_) (p9.mono xL λs h=>h.elim)⟩;rw[yT]at hb;cases hb;refine⟨B,xp,t',e1,e2,p6,by rw[p7,q1],λj c hj=>?_⟩;obtain⟨d,yP⟩:∃d,cells[j]? =some d:=⟨_,au (by rw[q1];exact(aB.1 hj).1)⟩
      obtain⟨cc,kd,kr⟩:=q2 j d yP;rw[hj]at kd;cases kd;have yO:c= .d d:=by cases c <;> simp[Lf]at kr;rw[kr]
      subst yO;exact⟨.inl (p8 j d yP).1,.d _ _ (p8 j d yP).2⟩
     .exact h.elim
    .exact h.elim
   .exact h.elim
  split at h
  .rename_i ds kF;obtain⟨v,bs,kl,xL⟩:=h;have xy:uj bs=true:=by
    cases hb:uj bs with
    |true=>rfl
    |false=>rw[hb]at xL;exact xL.elim
   have hk:k v bs:=by rw[xy]at xL;exact xL
   refine⟨v,bs,cV.Ej (by rw[ho];simp[lR,hc]) λE st' a w Q hle hd kg ⟨σ,hs⟩=>?_,hk⟩;obtain⟨hE,hC,hV,kQ⟩:=enter E st' σ a w hle hs kl.1;obtain⟨l1,l2⟩:=cD kF;have hI:=kl.2 (Own E.O (live st'.heap) σ) w hE (λb hb=>hs.pX b hb) hs.nJ (λg cells kJ=>hs.qo kJ) (hV.trans l1.symm) (λj d hj=>by
    obtain⟨cc,kd,hd⟩:=l2 j d hj;exact jr hd (kQ j cc kd))
   simp only[Oper.wp,hC,Oper.upon];refine hI.mono λe w' =>?_
   rintro⟨u,τ,rfl,ke,hU,hr⟩;dsimp only
   classical
   let σ' :Nat->Value:=λs=>if live bs s then τ s else σ s
   have e1:∀s,live bs s->σ' s=τ s:=λs hl=>if_pos hl
   have e2:∀s,live st'.heap s->σ' s=σ s:=λs hl=>if_neg λhb=>kg s hb hl
   have hN:bw w' w' (Own (Own E.O (live st'.heap) σ) (live bs) τ) (Own E.O (live (bs++st'.heap)) σ'):=bw.less λb hb=>by
    rcases hb with hb|⟨s,hl,e⟩
    .exact .inl (.inl hb)
    .rcases cJ.1 hl with hl|hl
     .rw[e1 s hl]at e;exact .inr ⟨s,hl,e⟩
     .rw[e2 s hl]at e;exact .inl (.inr ⟨s,hl,e⟩)
   have kU:∀s,live bs s->live (bs++st'.heap) s/\σ' s=τ s:=λs hl=>⟨cJ.2 (.inl hl),e1 s hl⟩
   refine⟨σ',hs.grow hd e2 ke (λq0 B hB hl=>by have:=BW xy _ hl;have:=(hs.fix q0 B hB).1.2;omega) (λs b hl e=>?_) (λs s' b hl hS e e' =>?_) (λs b hb=>?_) (hr.mono hN kU)⟩
   .rw[e1 s hl]at e;exact(hU.home hl e).1
   .rw[e1 s hl]at e;rw[e1 s' hS]at e';exact hU.inj s s' b hl hS e e'
   .have hl:live bs s:=aH.2 ⟨b,hb⟩;have:=(hU.blk s b hb).mono hN kU hl (λg _=>rfl);have hF:∀b,w.heap.size<=b->E.F b:=λb hb=>hs.new b (Nat.le_trans hs.frame.size hb)
    cases b with
    |box cells=>obtain⟨b,cur,t,q1,q2,q3⟩:=this;exact⟨b,cur,t,q1,hF _ q2,q3⟩
    |row e size rows fl=>obtain⟨xs,q1,q2,q3⟩:=this;exact⟨xs,q1,λb hb=>hF _ (q2 b hb),q3⟩
    |smap m=>obtain⟨b,es,cl,q1,q2,q3⟩:=this;exact⟨b,es,cl,q1,hF _ q2,q3⟩
    |cY m=>obtain⟨b,es,cl,q1,q2,q3⟩:=this;exact⟨b,es,cl,q1,hF _ q2,q3⟩
    |eF e size rows=>obtain⟨b,cur,t,q1,q2,q3⟩:=this;exact⟨b,cur,t,q1,hF _ q2,q3⟩
    |tail e size rows=>exact⟨this.1,λb hb=>hF _ (this.2 b hb)⟩
    |iter left cur=>exact⟨this.1,λb hb=>hF _ (this.2 b hb)⟩
    |dJ m=>obtain⟨b,es,cl,q1,q2,q3⟩:=this;exact⟨b,es,cl,q1,hF _ q2,q3⟩
  .split at h
   .rename_i ds kF;obtain⟨v,kl,kZ,hk⟩:=h;refine⟨v,[],cV.Ej (by rw[ho];simp[lR,hc]) λE st' a w Q hle hd kg ⟨σ,hs⟩=>?_,hk⟩;obtain⟨hE,hC,hV,kQ⟩:=enter E st' σ a w hle hs kl.1;rcases Bool.or_eq_true_iff.1 kZ with kZ|hlend
    case inr =>
     unfold Ap at hlend;split at hlend
     case h_2=>cases hlend
     rename_i zP yi;have zY:zP =ds:=by
      have:=wR (λc y=>IF) _ _ yi;rw[kF]at this;cases this;rfl
     subst zY;obtain⟨l1,l2⟩:=cD yi;have hI:=kl.2 (λb=>Own E.O (live st'.heap) σ b/\ ¬qJ st σ b) w hE (λb hb=>hs.pX b hb.1) hs.nJ (λg cells kJ h=>hs.qo kJ h.1) (hV.trans l1.symm) (λj d hj=>by
      obtain⟨cc,kd,hd⟩:=l2 j d hj;exact LX (λ_ _ h=>hle.heap _ _ h) hs.holds hd (kQ j cc kd))
     simp only[Oper.wp,hC,Oper.upon];refine hI.mono λe w' =>?_
     rintro⟨u,τ,rfl,ke,hU,hr⟩;dsimp only;refine⟨σ,hs.grow hd (λs _=>rfl) ke (λq0 B hB hl=>by simp[live,find]at hl) (λs b hl=>by simp[live,find]at hl) (λs s' b hl=>by simp[live,find]at hl) (λs b hb=>by simp[find]at hb) (Sh (λb hb ak _=>?_) hr hlend)⟩;by_cases hl:qJ st σ b
     .exact KV (λ_ _ h=>hle.heap _ _ h) hs.holds ke.block hl
     .exact absurd (.inl ⟨hb,hl⟩) ak
    obtain⟨l1,l2⟩:=cD kF;have yD:∀{c:AV} {x:D},gU st c=some x-> ∀{u:Value},aG w E.O (live st'.heap) σ c u->Rep w (λ_=>False) x u:=λhv _ hr=>(wQ hs.holds hs.apart (LY hle _ _ hv) hr).mono (bw.less λb h=>h.elim)
    have hI:=kl.2 (λ_=>False) w hE (λb hb=>hb.elim) hs.nJ (λg cells kJ h=>h) (hV.trans l1.symm) (λj d hj=>by
     obtain⟨cc,kd,hd⟩:=l2 j d hj;exact yD hd (kQ j cc kd))
    simp only[Oper.wp,hC,Oper.upon];refine hI.mono λe w' =>?_
    rintro⟨u,τ,rfl,ke,hU,hr⟩;dsimp only;exact⟨σ,hs.grow hd (λs _=>rfl) ke (λq0 B hB hl=>by simp[live,find]at hl) (λs b hl=>by simp[live,find]at hl) (λs s' b hl=>by simp[live,find]at hl) (λs b hb=>by simp[find]at hb) (CJ hr kZ)⟩
   .exact h.elim
 .exact h.elim
theorem qR(hT:bD cx){o:Oper}(h:opK cx o.dst o.type st o.op k):∃v bs,cV cx o st v bs/\k v bs:=by
 cases ho:o.op
 case move x=>rw[ho]at h;exact JC (.inl ho) h
 case assign x=>rw[ho]at h;exact NU ho h
 case pick c a b=>rw[ho]at h;exact Tf ho h
 case alloc e=>rw[ho]at h;exact QI hT ho h
 case box e x=>rw[ho]at h;exact Un hT ho h
 case build t parts=>rw[ho]at h;exact QJ hT ho h
 case buildSlice t len parts=>rw[ho]at h;exact Dz hT ho h
 case load t x=>rw[ho]at h;exact Te hT ho h
 case nilCheck x=>rw[ho]at h;exact Ii ho h
 case binOp op t x y ty =>
  rw[ho]at h;simp only[opK]at h;split at h
  .rename_i xa xb ky;obtain⟨za,h⟩:=h;unfold Oy at ky;split at ky
   .split at ky
    .rename_i sa sb e1 e2;cases ky;refine⟨_,[],cV.value λE st' σ a w hle hs=>?_,h⟩;have r1:=hs.ev hle x;have r2:=hs.ev hle y;rw[e1]at r1;rw[e2]at r2;have v1:∃b:ByteArray,a.eval x= .string b/\b.data.toList=xa:=by
      generalize a.eval x=u at r1
      cases r1 with|d _ _ hr=>cases hr;exact⟨_,rfl,by assumption⟩
     have v2:∃b:ByteArray,a.eval y= .string b/\b.data.toList=xb:=by
      generalize a.eval y=u at r2
      cases r2 with|d _ _ hr=>cases hr;exact⟨_,rfl,by assumption⟩
     obtain⟨b1,q1,l1⟩:=v1;obtain⟨b2,q2,l2⟩:=v2;have s1:b1.size=xa.length:=by rw[<- l1];exact(Array.length_toList (xs:=b1.data)).symm
     have s2:b2.size=xb.length:=by rw[<- l2];exact(Array.length_toList (xs:=b2.data)).symm
     refine⟨.string (b1++b2),?_,.d _ _ (.str _ _ (by rw[ByteArray.data_append,Array.toList_append,l1,l2]))⟩;have yM:=run_string_add_sum (P:=cx.P) w b1 b2 (by rw[s1,s2];exact za);simp only[execOp,ho,q1,q2];simp[eqGuard,binOp,yM]
    .cases ky
   .cases ky
  .exact kS (λρ=>do eqGuard op t x y (ρ x) (ρ y);binOp op t (ρ x) (ρ y)) (λρ=>by simp only[execOp,ho]) (λv hv E st' σ a w hle hs=>Pm hT hv (hs.ev hle x) (hs.ev hle y) x y) h
 case unOp op t x =>
  rw[ho]at h;exact kS (λρ=>Op.unary op (ρ x)) (λρ=>by simp only[execOp,ho]) (λv hv E st' σ a w hle hs=>Tu hv (hs.ev hle x)) h
 case convert src dst x =>
  rw[ho]at h;exact kS (λρ=>convert src dst (ρ x)) (λρ=>by simp only[execOp,ho]) (λv hv E st' σ a w hle hs=>ML hT hv (hs.ev hle x)) h
 case makeFunc fn first xn=>rw[ho]at h;exact Ih ho h
 case makeMap t r=>rw[ho]at h;exact Le hT ho h
 case makeSlice t l c=>rw[ho]at h;exact FZ hT ho h
 case slice t x lo hi mx =>
  rw[ho]at h;cases mx with
  |none=>exact ok_slice hT ho h
  |some _=>exact h.elim
 case fieldAddr s x f =>
  rw[ho]at h;exact kS (λρ=>Instr.fieldAt s (ρ x) f) (λρ=>by simp only[execOp,ho]) (λv hv E st' σ a w hle hs=>BN hT hv (hs.ev hle x)) h
 case field t x f =>
  rw[ho]at h;refine kS (λρ=>Instr.field t (ρ x) f) (λρ=>by simp only[execOp,ho]) (λv hv E st' σ a w hle hs=>?_) h;split at hv
  .rename_i r hr;obtain rfl:=mZ hv;exact Kz hT hr (hs.ev hle x)
  .cases hv
 case indexAddr t x i=>rw[ho]at h;exact FY hT ho h
 case index t x i=>rw[ho]at h;exact QK hT ho h
 case lookup t x i ok=>rw[ho]at h;exact NV hT ho h
 case extract x i =>
  rw[ho]at h;refine kS (λρ=>Instr.extract (ρ x) i) (λρ=>by simp only[execOp,ho]) (λv hv E st' σ a w hle hs=>?_) h;split at hv
  .rename_i r hr;obtain rfl:=mZ hv;exact Fh hr (hs.ev hle x)
  .cases hv
 case call c =>
  rw[ho]at h;simp only[opK,tP]at h;split at h
  .rename_i hc;split at h
   .rename_i x t ha ht;exact Uo hT ho hc ha ht h
   .exact h.elim
  .rename_i f hc;exact UU ho hc h
  .exact h.elim
 all_goals (rw[ho]at h;exact h.elim)
end
def jh(cx:Cx)(o:Oper)(st st1:St):Prop :=
 ∀(E:Env) a w (Q:Exit->Act->World->Prop),(∀e,o.dst=some e->e<E.nt)->Sim cx E st a w->o.wp cx.P a w (λa' w' =>Sim cx E st1 a' w') Q
def vQ:List AV->(List AV->Prop)->Prop
 |[],k=>k []
 |c::t,k=>(match AB c with|some c' =>vQ t λt' =>k (c' ::t')|none=>vQ t λt' =>k (.undef::t'))
theorem vR:∀(l:List AV) (k:List AV->Prop),vQ l k->k l
 |[],k,h=>h
 |c::t,k,h=>by
  simp only[vQ]at h;split at h
  .rename_i c' hc;have:=vR t _ h;rw[ur hc]at this;exact this
  .rename_i hc;have:=vR t _ h;have e:c= .undef:=by cases c <;> first|rfl|cases hc
   rw[e];exact this
section
variable {cx:Cx} {st:St} {E:Env} {σ:Nat->Value} {a:Act} {w:World}
theorem fu{h:List (Nat×Blk)}{s s' :Nat}{b:Blk}:find ((s,b)::h) s' =if s=s' then some b else find h s' :=by
 by_cases e:s=s'
 .subst e;rw[bk,if_pos rfl]
 .rw[bl _ _ e,if_neg e]
theorem fw{h:List (Nat×Blk)}{s:Nat}{b:Blk}(hl:live h s)(x:Nat):live ((s,b)::h) x ↔ live h x:=by
 unfold live;rw[fu];by_cases e:s=x
 .subst e;simpa using (show(find h s).isSome=true from hl)
 .rw[if_neg e]
theorem fj{h:List (Nat×Blk)}{s:Nat}{b:Blk}(hl:live h s):live ((s,b)::h)=live h:=funext λx=>propext (fw hl x)
theorem bN.write(h:bN cx E st σ a w){s g:Nat}{b:Blk}{w' :World}{d:Option Nat}{v:AV}{u:Value}(hd:∀e,d=some e->e<E.nt)(hl:live st.heap s)(hg:home (σ s)=some g)
 (h1:w'.os=w.os) (h2:w'.tape=w.tape) (h3:w'.output=w.output) (h4:w'.heap.size=w.heap.size) (h5:∀k,k≠g->w'.heap[k]? =w.heap[k]?)
 (hb:bw w w' (Own E.O (live st.heap) σ) (Own E.O (live st.heap) σ)->cZ w' E.F E.O (live st.heap) σ s b) (hr:∀w',aG w' E.O (live st.heap) σ v u) :
 bN cx E ⟨bF st.aV d v,(s,b)::st.heap⟩ σ (a.put d u) w' :=by
 have kX:Own E.O (live st.heap) σ g:= .inr ⟨s,hl,hg⟩;have hk:bw w w' (Own E.O (live st.heap) σ) (Own E.O (live st.heap) σ):=⟨by omega,λx hx _=>h5 x λe=>hx (e ▸ kX),λ_ hx _=>hx⟩
 have hs:∀s,live st.heap s->live st.heap s/\σ s=σ s:=λs h=>⟨h,rfl⟩
 have hQ:∀t,(St.mk (bF st.aV d v) ((s,b)::st.heap)).get t=if d=some t then v else st.get t:=λt=>St.fX st d v [] t
 refine⟨⟨h1.trans h.frame.os,h2.trans h.frame.tape,h3.trans h.frame.output,by rw[h4];exact h.frame.size,λx hx=>?_⟩,h.new,h.apart,?_,?_,λt=>?_,⟨λs' b' km =>?_,?_⟩,h.fI,h.dQ,λq0 B hB=>⟨(h.fix q0 B hB).1,λhS =>(h.fix q0 B hB).2 ((fw hl _).1 hS)⟩⟩
 .rw[h5 x λe=>hx (e ▸ (h.holds.home hl hg).1)];exact h.frame.block x hx
 .cases d <;> exact h.defers
 .cases d <;> simp[Act.put,h.nt]
 .rw[hQ,iP (by rw[h.nt];exact hd)];show aG w' E.O (live ((s,b)::st.heap)) σ _ _
  rw[fj hl];by_cases e:d=some t
  .rw[if_pos e,if_pos e];exact hr w'
  .rw[if_neg e,if_neg e];exact(h.aV t).mono hk hs
 .show cZ w' E.F E.O (live ((s,b)::st.heap)) σ s' b'
  rw[fj hl];have hP :find ((s,b)::st.heap) s' =some b' :=km;rw[fu]at hP;split at hP
  .rename_i e;subst e;cases hP;exact hb hk
  .rename_i e;have hS :live st.heap s' :=aH.2 ⟨b',hP⟩;exact(h.holds.blk s' b' hP).mono hk hs hS λx hx=>h5 x λe' =>e (h.holds.inj s s' g hl hS hg (e' ▸ hx))
 .exact λs1 s2 x l1 l2=>h.holds.inj s1 s2 x ((fw hl s1).1 l1) ((fw hl s2).1 l2)
theorem bN.OL(h:bN cx E st σ a w){s g:Nat}{b:Blk}{w' :World}{d:Option Nat}{v:AV}{u:Value}(hd:∀e,d=some e->e<E.nt)(hl:live st.heap s)(hg:home (σ s)=some g)
 (h1:w'.os=w.os) (h2:w'.tape=w.tape) (h3:w'.output=w.output) (h4:w.heap.size<=w'.heap.size) (h5:∀k,k<w.heap.size->k≠g->w'.heap[k]? =w.heap[k]?)
 (hb:bw w w' (Own E.O (live st.heap) σ) (Own E.O (live st.heap) σ)->cZ w' E.F E.O (live st.heap) σ s b) (hr:aG w' E.O (live st.heap) σ v u) :
 bN cx E ⟨bF st.aV d v,(s,b)::st.heap⟩ σ (a.put d u) w' :=by
 have kX:Own E.O (live st.heap) σ g:= .inr ⟨s,hl,hg⟩;have hk:bw w w' (Own E.O (live st.heap) σ) (Own E.O (live st.heap) σ):=⟨h4,λx hx hD=>h5 x hD λe=>hx (e ▸ kX),λ_ hx _=>hx⟩
 have hs:∀s,live st.heap s->live st.heap s/\σ s=σ s:=λs h=>⟨h,rfl⟩
 have hQ:∀t,(St.mk (bF st.aV d v) ((s,b)::st.heap)).get t=if d=some t then v else st.get t:=λt=>St.fX st d v [] t
 refine⟨⟨h1.trans h.frame.os,h2.trans h.frame.tape,h3.trans h.frame.output,Nat.le_trans h.frame.size h4,λx hx=>?_⟩,h.new,h.apart,?_,?_,λt=>?_,⟨λs' b' km =>?_,?_⟩,h.fI,h.dQ,λq0 B hB=>⟨(h.fix q0 B hB).1,λhS =>(h.fix q0 B hB).2 ((fw hl _).1 hS)⟩⟩
 .have hD:x<w.heap.size:=by
   rcases Nat.lt_or_ge x w.heap.size with hD|xQ
   .exact hD
   .exact absurd (h.new x (Nat.le_trans h.frame.size xQ)) hx
  rw[h5 x hD λe=>hx (e ▸ (h.holds.home hl hg).1)];exact h.frame.block x hx
 .cases d <;> exact h.defers
 .cases d <;> simp[Act.put,h.nt]
 .rw[hQ,iP (by rw[h.nt];exact hd)];show aG w' E.O (live ((s,b)::st.heap)) σ _ _
  rw[fj hl];by_cases e:d=some t
  .rw[if_pos e,if_pos e];exact hr
  .rw[if_neg e,if_neg e];exact(h.aV t).mono hk hs
 .show cZ w' E.F E.O (live ((s,b)::st.heap)) σ s' b'
  rw[fj hl];have hP :find ((s,b)::st.heap) s' =some b' :=km;rw[fu]at hP;split at hP
  .rename_i e;subst e;cases hP;exact hb hk
  .rename_i e;have hS :live st.heap s' :=aH.2 ⟨b',hP⟩;exact(h.holds.blk s' b' hP).mono hk hs hS λx hx=>h5 x (h.holds.home hS hx).2 λe' =>e (h.holds.inj s s' g hl hS hg (e' ▸ hx))
 .exact λs1 s2 x l1 l2=>h.holds.inj s1 s2 x ((fw hl s1).1 l1) ((fw hl s2).1 l2)
theorem bN.Ha(h:bN cx E st σ a w){s:Nat}{b:Blk}{w' :World}{d:Option Nat}{v:AV}{u:Value}(hd:∀e,d=some e->e<E.nt)(hl:live st.heap s)
 (h1:w'.os=w.os) (h2:w'.tape=w.tape) (h3:w'.output=w.output) (h4:w.heap.size<=w'.heap.size) (h5:∀k,k<w.heap.size->home (σ s)≠some k->w'.heap[k]? =w.heap[k]?)
 (hb:bw w w' (Own E.O (live st.heap) σ) (Own E.O (live st.heap) σ)->cZ w' E.F E.O (live st.heap) σ s b) (hr:aG w' E.O (live st.heap) σ v u) :
 bN cx E ⟨bF st.aV d v,(s,b)::st.heap⟩ σ (a.put d u) w' :=by
 have hk:bw w w' (Own E.O (live st.heap) σ) (Own E.O (live st.heap) σ):=⟨h4,λx hx hD=>h5 x hD λe=>hx (.inr ⟨s,hl,e⟩),λ_ hx _=>hx⟩
 have hs:∀s,live st.heap s->live st.heap s/\σ s=σ s:=λs h=>⟨h,rfl⟩
 have hQ:∀t,(St.mk (bF st.aV d v) ((s,b)::st.heap)).get t=if d=some t then v else st.get t:=λt=>St.fX st d v [] t
 refine⟨⟨h1.trans h.frame.os,h2.trans h.frame.tape,h3.trans h.frame.output,Nat.le_trans h.frame.size h4,λx hx=>?_⟩,h.new,h.apart,?_,?_,λt=>?_,⟨λs' b' km =>?_,?_⟩,h.fI,h.dQ,λq0 B hB=>⟨(h.fix q0 B hB).1,λhS =>(h.fix q0 B hB).2 ((fw hl _).1 hS)⟩⟩
 .have hD:x<w.heap.size:=by
   rcases Nat.lt_or_ge x w.heap.size with hD|xQ
   .exact hD
   .exact absurd (h.new x (Nat.le_trans h.frame.size xQ)) hx
  rw[h5 x hD λe=>hx (h.holds.home hl e).1];exact h.frame.block x hx
 .cases d <;> exact h.defers
 .cases d <;> simp[Act.put,h.nt]
 .rw[hQ,iP (by rw[h.nt];exact hd)];show aG w' E.O (live ((s,b)::st.heap)) σ _ _
  rw[fj hl];by_cases e:d=some t
  .rw[if_pos e,if_pos e];exact hr
  .rw[if_neg e,if_neg e];exact(h.aV t).mono hk hs
 .show cZ w' E.F E.O (live ((s,b)::st.heap)) σ s' b'
  rw[fj hl];have hP :find ((s,b)::st.heap) s' =some b' :=km;rw[fu]at hP;split at hP
  .rename_i e;subst e;cases hP;exact hb hk
  .rename_i e;have hS :live st.heap s' :=aH.2 ⟨b',hP⟩;exact(h.holds.blk s' b' hP).mono hk hs hS λx hx=>h5 x (h.holds.home hS hx).2 λe' =>e (h.holds.inj s s' x hl hS e' hx)
 .exact λs1 s2 x l1 l2=>h.holds.inj s1 s2 x ((fw hl s1).1 l1) ((fw hl s2).1 l2)
def xx(cells:List D)(off:Nat)(cs:List D):List D:=cells.take off++cs++cells.drop (off+cs.length)
theorem NW{cells cs:List D}{off:Nat}(h:off+cs.length<=cells.length)(j:Nat):(xx cells off cs)[j]? =if off<=j/\j<off+cs.length then cs[j-off]? else cells[j]? :=by
 unfold xx;have zl:(cells.take off).length=off:=by simp;omega
 by_cases h1:j<off
 .rw[if_neg (by omega),List.append_assoc,cU (by omega),List.getElem?_take,if_pos h1]
 .by_cases h2:j<off+cs.length
  .rw[if_pos ⟨by omega,h2⟩,List.append_assoc,cL (by omega),zl,cU (by omega)]
  .rw[if_neg (by omega),cL (by simp;omega),List.getElem?_drop]
   congr 1;simp;omega
def GB(cx:Cx)(st:St)(t:TypeId)(ad v:AV)(k:List (Nat×Blk)->Prop):Prop :=
 match cx.ty t,cellsOf (ju cx t v)with
 |some ti,some zt=>(match uu zt with
  |some cs=>(match Nat.beq cs.length ti.size,cs.all AV.one with
   |true,true=>(match ad with
    | .ptr s off=>(match find st.heap s with
     |some (.box cells)=>(match Nat.ble (off+cs.length) cells.length with
      |true=>vQ (over cells off cs) λkb =>k ((s,.box kb)::st.heap)
      |false=>False)
     |_=>False)
    | .dm s sz i off=>(match find st.heap s,cA mo cs with
     |some (.row e hK rows fl),some ds=>(match Nat.beq hK sz,Nat.ble (off+ds.length) sz,ds.all Ce with
      |true,true,true=> ∃row,rows[i]? =some row/\k ((s,.row e hK (rows.set i (xx row off ds)) fl)::st.heap)
      |_,_,_=>False)
     |_,_=>False)
    |_=>False)
   |_,_=>False)
  |none=>False)
 |_,_=>False
theorem Gc{cur:Array Value}{off:Nat}{us:List Value}(h:off+us.length<=cur.size)(j:Nat) :
 (cur.toList.take off++us++cur.toList.drop (off+us.length)).toArray.getD j Go.undef=if off<=j/\j<off+us.length then us.getD (j-off) Go.undef else cur.getD j Go.undef:=by
 have zl:(cur.toList.take off).length=off:=by simp;omega
 simp only[bM,List.getElem?_toArray];by_cases h1:j<off
 .rw[if_neg (by omega),List.append_assoc,cU (by omega),List.getElem?_take,if_pos h1];simp
 .by_cases h2:j<off+us.length
  .rw[if_pos ⟨by omega,h2⟩,List.append_assoc,cL (by omega),zl,cU (by omega)];simp[List.getD]
  .rw[if_neg (by omega),cL (by simp;omega),List.getElem?_drop];have:off+us.length+(j-(List.take off cur.toList++us).length)=j:=by simp;omega
   rw[this];simp
theorem Rh(hT:bD cx){o:Oper}{t:TypeId}{ad v:Operand}(ho:o.op= .store t ad v){k:List (Nat×Blk)->Prop}(h:GB cx st t (st.ev cx ad) (st.ev cx v) k) :
 ∃hp,jh cx o st ⟨bF st.aV o.dst (.tuple []),hp⟩/\k hp:=by
 unfold GB at h;split at h
 .rename_i ti zt zI yh;split at h
  .rename_i cs hn;obtain rfl:=qN hn;split at h
   .rename_i hV kO;have hV:cs.length=ti.size:=bd hV;have xM:∀{w:World} {O L:Nat->Prop} {σ:Nat->Value},aG w O L σ (.tuple []) Go.undef:= .tuple [] #[] rfl λj c hj=>by simp at hj
    split at h
    .rename_i s off yL;split at h
     .rename_i cells hf;split at h
      .rename_i hle;have hle:off+cs.length<=cells.length:=bB hle;refine⟨_,λE a w Q hd ⟨σ,hs⟩=>?_,vR _ _ h⟩;have xU:=hs.ev (St.le.refl st) ad;rw[yL]at xU;have kT:=jv (cx:=cx) (t:=t) (hs.ev (St.le.refl st) v);obtain⟨k1,k2⟩:=jE yh hs.one kT;obtain⟨r1,r2⟩:=dH (w:=w) hT zI;obtain⟨g,cur,tt,e1,e2,e3,e4,e5⟩:=hs.holds.blk s _ hf;have hl:live st.heap s:=aH.2 ⟨_,hf⟩;generalize zm:a.eval ad=ua at xU;cases xU with|ptr _ _ _ hL hσ =>
        rw[hσ]at e1;cases e1;have hX:∀u∈(a.eval v).cells.toList,u.oneCell' =true:=λu hu=>by
         obtain⟨j,hj,rfl⟩:=List.getElem_of_mem hu;have yu :j<cs.length:=by simpa [k1] using hj
         have:=k2 j _ (au yu);have h1:=aG.jd hs.one this (aI.1 kO _ (List.getElem_mem yu));have yX:j<(a.eval v).cells.size:=by simpa using hj
         simpa [yX] using h1
        have ky:=run_storeCells_at (P:=cx.P) g off tt (a.eval v).cells.toList 0 cur w e3 (by simp;omega) hX;simp only[Nat.add_zero]at ky;have hC:(execOp a.eval o).run cx.P w= .ok .skip (w.setRow g (cur.toList.take off++(a.eval v).cells.toList++cur.toList.drop (off+(a.eval v).cells.toList.length)).toArray):=by
         simp only[execOp,ho,Instr.storeAt,zm];simp[Instr.sureAddr,storeVar,r2,k1,hV,ky]
        simp only[Oper.wp,hC,Oper.upon];refine⟨σ,hs.write hd hl (by rw[hσ];rfl) rfl rfl rfl (by simp) (λx hx=>setRow_other w g x _ hx) (λhk=>?_) (λ_=>xM)⟩;refine⟨g,_,tt,hσ,e2,setRow_heap w g cur _ tt _ e3,?_,λj c hj=>?_⟩
        .rw[yl hle, <- e4];simp;omega
        .rw[Gd hle]at hj;have hlen:(a.eval v).cells.toList.length=cs.length:=by simpa using k1
         have ar:(cur.toList.take off++(a.eval v).cells.toList++cur.toList.drop (off+(a.eval v).cells.toList.length)).toArray.getD j Go.undef=if off<=j/\j<off+cs.length then(a.eval v).cells.toList.getD (j-off) Go.undef else cur.getD j Go.undef:=by
          rw[Gc (by rw[hlen];omega),hlen]
         rw[ar];have kU:∀s,live st.heap s->live st.heap s/\σ s=σ s:=λs h=>⟨h,rfl⟩
         split at hj
         .rename_i xi;rw[if_pos xi];refine⟨.inl (aI.1 kO c (aD hj)),?_⟩;have:=(k2 _ c hj).mono hk kU
          rwa [show(a.eval v).cells.toList.getD (j-off) Go.undef=(a.eval v).cells.getD (j-off) Go.undef by simp[List.getD]]
         .rename_i xi;rw[if_neg xi];exact⟨(e5 j c hj).1,(e5 j c hj).2.mono hk kU⟩
      .exact h.elim
     .exact h.elim
    .rename_i s sz i off yL;split at h
     .rename_i e hK rows fl ds hf kF;split at h
      .rename_i b1 b2 b3;obtain rfl:hK =sz:=bd b1;have b2:off+ds.length<=hK :=bB b2;obtain⟨row,ku,h⟩:=h;refine⟨_,λE a w Q hd ⟨σ,hs⟩=>?_,h⟩;have xU:=hs.ev (St.le.refl st) ad;rw[yL]at xU;have kT:=jv (cx:=cx) (t:=t) (hs.ev (St.le.refl st) v);obtain⟨k1,k2⟩:=jE yh hs.one kT;obtain⟨r1,r2⟩:=dH (w:=w) hT zI;obtain⟨l1,l2⟩:=cD kF;obtain⟨xs,o1,o2,o3,o4,o5⟩:=hs.holds.blk s _ hf;have hl:live st.heap s:=aH.2 ⟨_,hf⟩;have yW:i<rows.length:=(aB.1 ku).1;have zf:=(o4 row (aD ku)).1;generalize zm:a.eval ad=ua at xU;cases xU with|dm _ _ _ _ g' n' xN o0 hL hσ =>
        rcases o1.2 with ⟨q1,_⟩|⟨g,cap,cur,q1,_,q3,q4,q5,q6,q7⟩
        .rw[hσ]at q1;cases q1
        .rw[hσ]at q1;cases q1;have hlen:(a.eval v).cells.toList.length=ds.length:=by rw[Array.length_toList,k1,l1]
         have hX:∀u∈(a.eval v).cells.toList,u.oneCell' =true:=λu hu=>by
          obtain⟨j,hj,rfl⟩:=List.getElem_of_mem hu;have yu :j<cs.length:=by simpa [k1] using hj
          have:=k2 j _ (au yu);have h1:=aG.jd hs.one this (aI.1 kO _ (List.getElem_mem yu));have yX:j<(a.eval v).cells.size:=by simpa using hj
          simpa [yX] using h1
         have kj:i*hK +off+ds.length<=rows.length*hK :=by
          have:(i+1)*hK <=rows.length*hK :=Nat.mul_le_mul_right _ yW;rw[Nat.add_mul]at this;omega
         have zU:rows.length*hK <=xN *hK :=Nat.mul_le_mul_right _ q4;have ky:=run_storeCells_at (P:=cx.P) g' (i*hK +off) e (a.eval v).cells.toList 0 cur w q3 (by rw[hlen];omega) hX;simp only[Nat.add_zero]at ky;have hC:(execOp a.eval o).run cx.P w= .ok .skip (w.setRow g' (cur.toList.take (i*hK +off)++(a.eval v).cells.toList++cur.toList.drop (i*hK +off+(a.eval v).cells.toList.length)).toArray):=by
          simp only[execOp,ho,Instr.storeAt,zm];simp[Instr.sureAddr,storeVar,r2,k1,hV,ky]
         simp only[Oper.wp,hC,Oper.upon];refine⟨σ,hs.write hd hl (by rw[hσ];rfl) rfl rfl rfl (by simp) (λx hx=>setRow_other w g' x _ hx) (λhk=>?_) (λ_=>xM)⟩;have yq:∀q,q<xN *hK ->(cur.toList.take (i*hK +off)++(a.eval v).cells.toList++cur.toList.drop (i*hK +off+(a.eval v).cells.toList.length))[q]? =some (if i*hK +off<=q/\q<i*hK +off+ds.length then(a.eval v).cells.getD (q-(i*hK +off)) Go.undef else cur.getD q Go.undef):=λq hq=>by
          have:=Gc (cur:=cur) (off:=i*hK +off) (us:=(a.eval v).cells.toList) (by rw[hlen];omega) q;rw[hlen]at this ⊢;have hD:q<(cur.toList.take (i*hK +off)++(a.eval v).cells.toList++cur.toList.drop (i*hK +off+ds.length)).length:=by simp[k1, <- l1];omega
          rw[au hD]
          congr 1
          simp only[bM,List.getElem?_toArray,au hD,Option.getD_some]at this;rw[this];simp[List.getD]
         refine⟨(cur.toList.take (i*hK +off)++(a.eval v).cells.toList++cur.toList.drop (i*hK +off+(a.eval v).cells.toList.length)).take (rows.length*hK),⟨?_,.inr ⟨g',xN,_,?_,Nat.zero_le _,setRow_heap w g' cur _ e _ q3,?_,q5,?_,?_⟩⟩,o2,⟨o3.1,λe=>by rw[List.length_set];exact o3.2 e⟩,?_,λi' r' j d hi hj=>?_⟩
         .simp[k1, <- l1,q6];omega
         .rw[hσ];simp
         .simpa using q4
         .simp[k1, <- l1,q6];omega
         .simp
         .intro r hr;rcases List.mem_or_eq_of_mem_set hr with hr|rfl
          .exact o4 r hr
          .refine⟨by unfold xx;simp;omega,λx hx=>?_⟩;unfold xx at hx;simp only[List.mem_append]at hx;rcases hx with (hx|hx)|hx
           .exact(o4 row (aD ku)).2 x (List.mem_of_mem_take hx)
           .exact aI.1 b3 x hx
           .exact(o4 row (aD ku)).2 x (List.mem_of_mem_drop hx)
         .have yt:i' <rows.length:=by have:=(aB.1 hi).1;simpa using this
          have kU:∀s,live st.heap s->live st.heap s/\σ s=σ s:=λs h=>⟨h,rfl⟩
          have xm:∀r j d,rows[i']? =some r->r[j]? =some d->j<hK ->Rep w (Own E.O (live st.heap) σ) d (cur.getD (i' *hK +j) Go.undef):=λr j d hr hj yv=>by
           obtain⟨u,hu,hd⟩:=o5 i' r j d hr hj;rw[<- q7,List.getElem?_take]at hu;split at hu
           .have:cur.getD (i' *hK +j) Go.undef=u:=by rw[bx]at hu;simp[hu]
            rw[this];exact hd
           .cases hu
          have yv:j<hK :=by
           rw[List.getElem?_set]at hi;split at hi
           .try rw[if_pos (by omega)]at hi
            cases hi;have:=(aB.1 hj).1;unfold xx at this;simp at this;omega
           .have:=(aB.1 hj).1;rw[(o4 r' (aD hi)).1]at this;exact this
          have hq:i' *hK +j<rows.length*hK :=by
           have:(i' +1)*hK <=rows.length*hK :=Nat.mul_le_mul_right _ yt;rw[Nat.add_mul]at this;omega
          refine⟨_,by rw[List.getElem?_take,if_pos hq];exact yq _ (by omega),?_⟩;rw[List.getElem?_set]at hi;split at hi
          .rename_i e;subst e
           try rw[if_pos (by omega)]at hi
           cases hi;rw[NW (by omega)]at hj;split at hj
           .rename_i xi;rw[if_pos (by omega)];obtain⟨c,hc,hd⟩:=l2 _ d hj;have:=pc hd (k2 _ c hc);rw[show i*hK +j-(i*hK +off)=j-off by omega];exact this.mono hk
           .rename_i xi;rw[if_neg (by omega)];exact(xm row j d ku hj yv).mono hk
          .rename_i hR;have kY:¬(i*hK +off<=i' *hK +j/\i' *hK +j<i*hK +off+ds.length):=by
            intro ⟨x1,x2⟩;rcases Nat.lt_or_ge i i' with hD|xQ
            .have:(i+1)*hK <=i' *hK :=Nat.mul_le_mul_right _ hD;rw[Nat.add_mul]at this;omega
            .have hD:i' <i:=by omega
             have:(i' +1)*hK <=i*hK :=Nat.mul_le_mul_right _ hD;rw[Nat.add_mul]at this;omega
           rw[if_neg kY];exact(xm r' j d hi hj yv).mono hk
      .exact h.elim
     .exact h.elim
    .exact h.elim
   .exact h.elim
  .exact h.elim
 .exact h.elim
end
def ik(s:Nat):AV->AV
 | .own s' =>(match Nat.beq s s' with|true=> .undef|false=> .own s')
 | .dm s' a b c=>(match Nat.beq s s' with|true=> .undef|false=> .dm s' a b c)
 | .tl s' a b=>(match Nat.beq s s' with|true=> .undef|false=> .tl s' a b)
 | .ptr s' o=>(match Nat.beq s s' with|true=> .undef|false=> .ptr s' o)
 | .omap s' =>(match Nat.beq s s' with|true=> .undef|false=> .omap s')
 | .d x=> .d x
 | .nil z=> .nil z
 |_=> .undef
def uD(s:Nat):AV->AV
 | .agg cs=> .agg (cs.map (ik s))
 | .fn f a b=> .fn f (a.map (ik s)) (b.map (ik s))
 | .tuple []=> .tuple []
 |v=>ik s v
def Uu(s:Nat):Blk->Blk
 | .box cells=> .box (cells.map (ik s))
 | .eF e z rows=> .eF e z (rows.map λr=>r.map (uD s))
 | .dJ m=> .dJ (m.map λp=>(p.1,ik s p.2))
 |b=>b
def il(s:Nat):List (Nat×AV)->List (Nat×AV):=λl=>l.map λp=>(p.1,uD s p.2)
def eL(s:Nat):List (Nat×Blk)->List (Nat×Blk):=λl=>l.map λp=>(p.1,Uu s p.2)
theorem lN{α β:Type}(f:α->β):∀(l:List (Nat×α)) (i:Nat),find (l.map λp=>(p.1,f p.2)) i=(find l i).map f
 |[],i=>rfl
 |(k,x)::t,i=>by
  by_cases h:k=i
  .subst h;rw[List.map_cons,bk,bk];rfl
  .rw[List.map_cons,bl _ _ h,bl _ _ h,lN f t i]
section
variable {w:World} {O L:Nat->Prop} {σ:Nat->Value} {s:Nat}
theorem sx{s s' :Nat}(h:Nat.beq s s' =false):s' ≠s:=λe=>by subst e;simp at h
theorem zh:∀b,Own (λb=>O b\/(L s/\home (σ s)=some b)) (λx=>L x/\x≠s) σ b ↔ Own O L σ b:=λb=>by
 constructor
 .rintro((h|⟨h,e⟩)|⟨x,⟨h,_⟩,e⟩)
  .exact .inl h
  .exact .inr ⟨s,h,e⟩
  .exact .inr ⟨x,h,e⟩
 .rintro(h|⟨x,h,e⟩)
  .exact .inl (.inl h)
  .by_cases hx:x=s
   .subst hx;exact .inl (.inr ⟨h,e⟩)
   .exact .inr ⟨x,⟨h,hx⟩,e⟩
theorem iz{c:AV}{v:Value}(h:aG w O L σ c v):aG w (λb=>O b\/(L s/\home (σ s)=some b)) (λx=>L x/\x≠s) σ (ik s c) v:=by
 cases h with
 |undef=>exact .undef _
 |d x v h=>exact .d _ _ (h.mono (bw.less λb hb=>(zh b).1 hb))
 |nil=>exact .nil _
 |ptr s' off b hL h=>simp only[ik];split;exact .undef _;rename_i e;exact .ptr _ _ b ⟨hL,sx e⟩ h
 |own s' hL=>simp only[ik];split;exact .undef _;rename_i e;exact .own _ ⟨hL,sx e⟩
 |dm s' size i off b n cap o0 hL h=>simp only[ik];split;exact .undef _;rename_i e;exact .dm _ _ _ _ b n cap o0 ⟨hL,sx e⟩ h
 |tl s' size i b n cap o0 hL h=>simp only[ik];split;exact .undef _;rename_i e;exact .tl _ _ _ b n cap o0 ⟨hL,sx e⟩ h
 |omap s' hL=>simp only[ik];split;exact .undef _;rename_i e;exact .omap _ ⟨hL,sx e⟩
 |maybe=>exact .undef _
 |agg=>exact .undef _
 |tuple=>exact .undef _
 |fn=>exact .undef _
theorem xt{cs:List AV}{vs:Array Value}(h:∀j c,cs[j]? =some c->aG w O L σ c (vs.getD j Go.undef))(j:Nat)(c:AV)(hj:(cs.map (ik s))[j]? =some c) :
 aG w (λb=>O b\/(L s/\home (σ s)=some b)) (λx=>L x/\x≠s) σ c (vs.getD j Go.undef):=by
 rw[bc]at hj;cases hc:cs[j]? with
 |none=>rw[hc]at hj;cases hj
 |some y=>rw[hc]at hj;cases hj;exact iz (h j y hc)
theorem CY{c:AV}{v:Value}(h:aG w O L σ c v):aG w (λb=>O b\/(L s/\home (σ s)=some b)) (λx=>L x/\x≠s) σ (uD s c) v:=by
 cases h with
 |agg cs vs hl hh=>exact .agg _ _ (by simpa using hl) (xt hh)
 |fn f first xn xs vs hx hl h1 h2=>exact .fn _ _ _ _ _ (by simpa using hx) (by simpa using hl) (xt h1) (xt h2)
 |tuple cs vs hl hh =>
  cases cs with
  |nil=>exact .tuple [] vs hl λj c hj=>by simp at hj
  |cons=>exact .undef _
 |undef=>exact .undef _
 |d x v h=>exact iz (.d x v h)
 |nil=>exact .nil _
 |ptr s' off b hL h=>exact iz (.ptr s' off b hL h)
 |own s' hL=>exact iz (.own s' hL)
 |dm s' size i off b n cap o0 hL h=>exact iz (.dm s' size i off b n cap o0 hL h)
 |tl s' size i b n cap o0 hL h=>exact iz (.tl s' size i b n cap o0 hL h)
 |omap s' hL=>exact iz (.omap s' hL)
 |maybe p b h=>exact iz (.maybe p b h)
theorem AT{c:AV}(h:c.one=true\/c= .undef):(ik s c).one=true\/ik s c= .undef:=by
 rcases h with h|rfl
 .cases c <;> simp only[ik] <;> first|exact .inl h|exact .inr rfl|exact .inr trivial|(split <;> first|exact .inr rfl|exact .inl rfl)
 .exact .inr rfl
theorem Od{c:AV}(h:c.one=true\/c= .undef):(uD s c).one=true\/uD s c= .undef:=by
 cases c with
 |agg=>rcases h with h|h <;> cases h
 |tuple=>rcases h with h|h <;> cases h
 |fn=>exact .inl rfl
 |_=>exact AT (s:=s) h
end
section
variable {cx:Cx} {st:St} {E:Env} {σ:Nat->Value} {a:Act} {w:World}
theorem Ng{aV:List (Nat×AV)}{h h' :List (Nat×Blk)}(s t:Nat):(St.mk (il s aV) h).get t=uD s ((St.mk aV h').get t):=by
 simp only[St.get,il,lN];cases find aV t <;> rfl
theorem As{h:List (Nat×Blk)}{s:Nat}:live (eL s h)=live h:=funext λx=>by
 simp only[live,eL,lN];cases find h x <;> rfl
theorem bN.RZ(h:bN cx E st σ a w){s:Nat}{b:Blk}{w' :World}{d:Option Nat}{u τ:Value}{v:AV}(hd:∀e,d=some e->e<E.nt)(hl:live st.heap s)(ku:∀x,σ s≠ .pointer x)
 (h1:w'.os=w.os) (h2:w'.tape=w.tape) (h3:w'.output=w.output) (h4:w.heap.size<=w'.heap.size) (h5:∀k,k<w.heap.size->home (σ s)≠some k->w'.heap[k]? =w.heap[k]?)
 (hτ:∀g,home τ=some g->home (σ s)=some g\/w.heap.size<=g)
 (hb:∀σ' :Nat->Value,σ' s=τ->(∀x,x≠s->σ' x=σ x)->bw w w' (Own E.O (live st.heap) σ) (Own E.O (live st.heap) σ')->cZ w' E.F E.O (live st.heap) σ' s b)
 (hr:∀σ' :Nat->Value,σ' s=τ->aG w' E.O (live st.heap) σ' v u) :
 ∃σ',bN cx E ⟨bF (il s st.aV) d v,(s,b)::eL s st.heap⟩ σ' (a.put d u) w' :=by
 let σ' :Nat->Value:=λx=>if x=s then τ else σ x
 have e1:σ' s=τ:=if_pos rfl;have e2:∀x,x≠s->σ' x=σ x:=λx hx=>if_neg hx
 have hV:=h.frame.size;have hk:bw w w' (Own E.O (live st.heap) σ) (Own E.O (live st.heap) σ'):=by
  refine⟨h4,λx hx hD=>h5 x hD λe=>hx (.inr ⟨s,hl,e⟩),λx hx hD ho=>?_⟩;rcases ho with ho|⟨y,hy,e⟩
  .exact hx (.inl ho)
  .by_cases yf:y=s
   .subst yf;rw[e1]at e;rcases hτ x e with e|e
    .exact hx (.inr ⟨y,hy,e⟩)
    .omega
   .rw[e2 y yf]at e;exact hx (.inr ⟨y,hy,e⟩)
 have yI :bw w w' (Own (λb=>E.O b\/(live st.heap s/\home (σ s)=some b)) (λx=>live st.heap x/\x≠s) σ) (Own E.O (live st.heap) σ') :=
  ⟨hk.size,λx hx hD=>hk.block x (λho=>hx ((zh x).2 ho)) hD,λx hx hD=>hk.own x (λho=>hx ((zh x).2 ho)) hD⟩
 have xV :∀x,(live st.heap x/\x≠s)->live st.heap x/\σ' x=σ x:=λx ⟨hx,hR⟩=>⟨hx,e2 x hR⟩
 have ka:live ((s,b)::eL s st.heap)=live st.heap:=by
  rw[fj (by rw[As];exact hl),As]
 have hQ:∀t,(St.mk (bF (il s st.aV) d v) ((s,b)::eL s st.heap)).get t=if d=some t then v else uD s (st.get t):=λt=>by
  have:=St.fX ⟨il s st.aV,eL s st.heap⟩ d v [] t;rw[Ng (h' :=st.heap)]at this;exact this
 refine⟨σ',⟨h1.trans h.frame.os,h2.trans h.frame.tape,h3.trans h.frame.output,by omega,λx hx=>?_⟩,h.new,h.apart,?_,?_,λt=>?_,⟨λs' b' km =>?_,λx y g lx ly ex ey=>?_⟩,h.fI,h.dQ,λq0 B hB=>⟨(h.fix q0 B hB).1,λhS =>?_⟩⟩
 .have hD:x<w.heap.size:=by
   rcases Nat.lt_or_ge x w.heap.size with hD|xQ
   .exact hD
   .exact absurd (h.new x (by omega)) hx
  rw[h5 x hD λe=>hx (h.holds.home hl e).1];exact h.frame.block x hx
 .cases d <;> exact h.defers
 .cases d <;> simp[Act.put,h.nt]
 .rw[hQ,iP (by rw[h.nt];exact hd)];show aG w' E.O (live ((s,b)::eL s st.heap)) σ' _ _
  rw[ka];by_cases e:d=some t
  .rw[if_pos e,if_pos e];exact hr σ' e1
  .rw[if_neg e,if_neg e];exact(CY (s:=s) (h.aV t)).mono yI xV
 .show cZ w' E.F E.O (live ((s,b)::eL s st.heap)) σ' s' b'
  rw[ka];have hP :find ((s,b)::eL s st.heap) s' =some b' :=km;rw[fu]at hP;split at hP
  .rename_i e;subst e;cases hP;exact hb σ' e1 e2 hk
  .rename_i e;simp only[eL,lN]at hP;cases hf:find st.heap s' with
   |none=>rw[hf]at hP;cases hP
   |some b0 =>
    rw[hf]at hP;cases hP;have hS :live st.heap s' :=aH.2 ⟨b0,hf⟩;have hR:s' ≠s:=λe' =>e e'.symm
    have hold:=h.holds.blk s' b0 hf;have hZ:∀g,home (σ s')=some g->w'.heap[g]? =w.heap[g]? :=λg hg=>h5 g (h.holds.home hS hg).2 λe' =>hR (h.holds.inj s' s g hS hl hg e')
    cases b0 with
    |box cells =>
     obtain⟨g,cur,t,p1,p2,p3,p4,p5⟩:=hold;refine⟨g,cur,t,(e2 s' hR).trans p1,p2,(hZ g (by rw[p1];rfl)).trans p3,by simpa using p4,λj c hj=>?_⟩;have ao :=xt (s:=s) (λj c hj=>(p5 j c hj).2) j c hj;refine⟨?_,ao.mono yI xV⟩;rw[bc]at hj;cases hc:cells[j]? with
     |none=>rw[hc]at hj;cases hj
     |some y=>rw[hc]at hj;cases hj;exact AT (p5 j y hc).1
    |row e size rows fl =>
     obtain⟨xs,p1,p2,p3,p4,p5⟩:=hold;refine⟨xs,⟨p1.1,?_⟩,?_,⟨p3.1,λe=>by rw[e2 s' hR];exact p3.2 e⟩,p4,λi r j d hi hj=>?_⟩
     .rw[e2 s' hR];rcases p1.2 with q|⟨g,cap,cur,q1,q2,q3,q4⟩
      .exact .inl q
      .exact .inr ⟨g,cap,cur,q1,q2,(hZ g (by rw[q1];rfl)).trans q3,q4⟩
     .rw[e2 s' hR];exact p2
     .obtain⟨u,hu,hd⟩:=p5 i r j d hi hj;exact⟨u,hu,hd.mono hk⟩
    |smap m =>
     obtain⟨g,es,cl,p1,p2,p3,p4,p5⟩:=hold;refine⟨g,es,cl,(e2 s' hR).trans p1,p2,(hZ g (by rw[p1];rfl)).trans p3,p4,λj k v hj=>?_⟩;obtain⟨e,he,xS,hv⟩:=p5 j k v hj;exact⟨e,he,xS.mono hk,hv.mono hk⟩
    |cY m =>
     obtain⟨g,es,cl,p1,p2,p3,p4⟩:=hold;exact⟨g,es,cl,(e2 s' hR).trans p1,p2,(hZ g (by rw[p1];rfl)).trans p3,p4.mono λ_ _ h=>h.mono hk⟩
    |eF e size rows =>
     obtain⟨g,cur,t,p1,p2,p3,p4,p5⟩:=hold;refine⟨g,cur,t,by rw[e2 s' hR,aA];exact p1,p2,(hZ g (by rw[p1];rfl)).trans p3,λr hr=>?_,λi r j c hi hj=>?_⟩
     .obtain⟨r0,xB,rfl⟩:=List.mem_map.1 hr;rw[aA];exact p4 r0 xB
     .obtain⟨r0,c0,h1,h2,rfl⟩:=zk hi hj;exact⟨⟨Od (p5 i r0 j c0 h1 h2).1.1,(p5 i r0 j c0 h1 h2).1.2⟩,(CY (s:=s) (p5 i r0 j c0 h1 h2).2).mono yI xV⟩
    |tail e size rows =>
     show iJ w' _ e size rows (σ' s')/\_
     rw[e2 s' hR];exact⟨hold.1.mono hZ λ_ _ hr=>hr.mono hk,hold.2⟩
    |iter left cur =>
     show oV w' _ left cur (σ' s')/\_
     rw[e2 s' hR];exact⟨hold.1.mono hZ hk,hold.2⟩
    |dJ m =>
     obtain⟨g,es,cl,p1,p2,p3,p4,p5⟩:=hold;refine⟨g,es,cl,(e2 s' hR).trans p1,p2,(hZ g (by rw[p1];rfl)).trans p3,by rw[aA];exact p4,λj k v hj=>?_⟩;obtain⟨v0,yb,rfl⟩:=tL hj;obtain⟨e,he,xS,hv⟩:=p5 j k v0 yb;exact⟨e,he,xS,(iz hv).mono yI xV⟩
 .rw[ka]at lx ly;by_cases hx:x=s <;> by_cases hy:y=s
  .rw[hx,hy]
  .subst hx;rw[e1]at ex;rw[e2 y hy]at ey;rcases hτ g ex with e|e
   .exact h.holds.inj x y g lx ly e ey
   .have:=(h.holds.home ly ey).2;omega
  .subst hy;rw[e1]at ey;rw[e2 x hx]at ex;rcases hτ g ey with e|e
   .exact h.holds.inj x y g lx ly ex e
   .have:=(h.holds.home lx ex).2;omega
  .rw[e2 x hx]at ex;rw[e2 y hy]at ey;exact h.holds.inj x y g lx ly ex ey
 .have hS :live ((s,b)::eL s st.heap) q0:=hS;rw[ka]at hS;have hf:=(h.fix q0 B hB).2 hS;by_cases hx:q0=s
  .rw[hx]at hf;exact absurd hf (ku _)
  .rw[e2 _ hx];exact hf
def oI(st:St):AV->Option (Nat×List (List D))
 | .d (.slice sz rows)=>some (sz,rows)
 | .nil sz=>some (sz,[])
 | .own s=>(match find st.heap s with|some (.row _ sz rows _)=>some (sz,rows)|_=>none)
 |_=>none
theorem bN.GI(h:bN cx E st σ a w){s:Nat}{b:Blk}{w' :World}{d:Option Nat}{u τ:Value}{v:AV}(hd:∀e,d=some e->e<E.nt)(hl:live st.heap s)(ku:∀x,σ s≠ .pointer x)
 (h1:w'.os=w.os) (h2:w'.tape=w.tape) (h3:w'.output=w.output) (h4:w.heap.size<=w'.heap.size) (h5:∀k,k<w.heap.size->home (σ s)≠some k->w'.heap[k]? =w.heap[k]?)
 (hτ:∀g,home τ=some g->home (σ s)=some g\/w.heap.size<=g)
 (hb:∀σ' :Nat->Value,σ' s=τ->bw w w' (Own E.O (live st.heap) σ) (Own E.O (live st.heap) σ')->cZ w' E.F E.O (live st.heap) σ' s b)
 (hr:∀σ' :Nat->Value,σ' s=τ->aG w' E.O (live st.heap) σ' v u) :
 ∃σ',bN cx E ⟨bF (il s st.aV) d v,(s,b)::eL s st.heap⟩ σ' (a.put d u) w' :=h.RZ hd hl ku h1 h2 h3 h4 h5 hτ (λσ' e1 _ hk=>hb σ' e1 hk) hr
theorem Cm(hs:bN cx E st σ a w){x:AV}{sz:Nat}{rows:List (List D)}(h:oI st x=some (sz,rows)){u:Value}(hr:aG w E.O (live st.heap) σ x u) :
 ∃ad c,u= .slice ad rows.length c/\(∀r∈rows,r.length=sz/\ ∀d∈r,d.one=true) /\
  (rows≠[]-> ∃B off,ad=some ⟨B,off,none⟩/\ ∀i r j d,rows[i]? =some r->r[j]? =some d-> ∃v,w.cell? ⟨B,off+(i*sz+j),none⟩=some v/\Rep w (Own E.O (live st.heap) σ) d v):=by
 unfold oI at h;split at h
 .cases h;cases hr with|d _ _ hr=>cases hr with
  |empty=>exact⟨_,_,rfl,λr hr=>by simp at hr,λhR=>absurd rfl hR⟩
  |slice _ _ B off n cap us hn hO hB hc hl h1 h2 =>
   subst hn;exact⟨_,_,rfl,hl,λ_=>⟨B,off,rfl,λi r j d hi hj=>⟨us i j,by rw[<- Nat.add_assoc];exact h1 i r j d hi hj,h2 i r j d hi hj⟩⟩⟩
 .cases h;cases hr;exact⟨_,_,rfl,λr hr=>by simp at hr,λhR=>absurd rfl hR⟩
 .rename_i s;split at h
  .rename_i e hK hA fl hf;cases h;cases hr with|own _ hL =>
    obtain⟨xs,o1,o2,o3,o4,o5⟩:=hs.holds.blk s _ hf;rcases o1.2 with ⟨e1,e2⟩|⟨g,cap,cur,e1,_,e3,e4,_,e6,e7⟩
    .obtain rfl:rows=[]:=List.eq_nil_of_length_eq_zero e2;exact⟨_,_,e1,o4,λhR=>absurd rfl hR⟩
    .refine⟨_,_,e1,o4,λ_=>⟨g,0,rfl,λi r j d hi hj=>?_⟩⟩;obtain⟨u,hu,hd⟩:=o5 i r j d hi hj;refine⟨u,?_,hd⟩;rw[<- e7,List.getElem?_take]at hu;split at hu
     .simp only[World.cell?,e3,Nat.zero_add];simpa using hu
     .cases hu
  .cases h
 .cases h
theorem ng(P:Program)(w:World){t ty e:TypeId}{i:TypeInfo}(ht:P.underlying t=some (.slice e))(hi:P.info? e=some i){base:Option Addr}{n cap:Nat}(hn:n<=cap)(ad:Option Addr)(c:Nat) :
 (Builtin.append_ #[t,t] ty #[.slice base n cap,.slice ad 0 c]).run P w= .ok (.slice base n cap) w:=by
 cases base <;> cases ad <;> simp[Builtin.append_,run_underlying ht,Go.sizeOf,typeInfo,hi,Builtin.lenOf,Builtin.firstCells,hn,loadCells,loadCellsFrom,storeCells]
theorem zG(hT:bD cx)(hs:bN cx E st σ a w){t e ty:TypeId}{ei:TI}(xg:cB cx t=some (e,ei))(hV:1<=ei.size){x:AV}{aW:List (List D)}(hx:oI st x=some (ei.size,aW)){u v:Value}(hr:aG w E.O (live st.heap) σ x u)
 {n:Nat} {xs:List Value} (kP:w.ownsRow 0 e ei.size v n xs) (yg:n+aW.length<=maxLen) (xY:(n+aW.length)*ei.bytes<=140737488355328) :
 ∃v' w' news,(Builtin.append_ #[t,t] ty #[v,u]).run cx.P w= .ok v' w' /\w'.ownsRow 0 e ei.size v' (n+aW.length) (xs++news)/\w.grownBy w' v.ownBlock/\(∀g,home v' =some g->home v=some g\/w.heap.size<=g) /\
  (∀r∈aW,r.length=ei.size/\ ∀d∈r,d.one=true)/\ ∀i r j d,aW[i]? =some r->r[j]? =some d-> ∃z,news[i*ei.size+j]? =some z/\Rep w (Own E.O (live st.heap) σ) d z:=by
 obtain⟨ti,ht,yw,yn⟩:=cC xg;obtain⟨_,_,_,_,t2,t3,_⟩:=hT _ _ ht;rw[yw]at t3;obtain rfl:=bZ t3;obtain⟨info,desc,zv,i1,i2,i3,i4,i5,i6,i7,i8,i9,i10⟩:=hT _ _ yn;obtain⟨ad,c,rfl,p1,p2⟩:=Cm hs hx hr;by_cases hR:aW=[]
 .subst hR;have hv:∃base cap,v= .slice base n cap/\n<=cap:=by
   rcases kP.2 with ⟨rfl,rfl⟩|⟨g,cap,cur,rfl,_,_,h,_⟩
   .exact⟨none,0,rfl,Nat.le_refl _⟩
   .exact⟨_,cap,rfl,h⟩
  obtain⟨base,cap,rfl,zC⟩:=hv;refine⟨_,w,[],ng cx.P w t2 i1 zC ad c,by simpa using kP,⟨rfl,rfl,rfl,Nat.le_refl _,λ_ _ _=>rfl⟩,λg hg=> .inl hg,p1,λi r j d hi=>by simp at hi⟩
 .obtain⟨B,off,rfl,p3⟩:=p2 hR
  let f:Nat->Value:=λq=>(w.cell? ⟨B,off+q,none⟩).getD Go.undef
  have hq:∀q,q<aW.length*ei.size-> ∃r d,aW[q / ei.size]? =some r/\r[q % ei.size]? =some d/\d.one=true:=λq hq=>by
   have h1:q / ei.size<aW.length:=Nat.div_lt_of_lt_mul (by rw[Nat.mul_comm];exact hq);have h2:=au h1;have h3:=p1 _ (List.getElem_mem h1);have h4:q % ei.size<(aW[q / ei.size]).length:=by rw[h3.1];exact Nat.mod_lt _ hV
   exact⟨_,_,h2,au h4,h3.2 _ (List.getElem_mem h4)⟩
  have yQ:∀q,q / ei.size*ei.size+q % ei.size=q:=λq=>by rw[Nat.mul_comm];exact Nat.div_add_mod q ei.size
  have kz:∀q,q<aW.length*ei.size->w.cell? ⟨B,off+q,none⟩=some (f q)/\(f q).oneCell' =true:=λq hD=>by
   obtain⟨r,d,h1,h2,h3⟩:=hq q hD;obtain⟨z,hz,hd⟩:=p3 _ r _ d h1 h2;rw[yQ]at hz;have:f q=z:=by simp[f,hz]
   rw[this];exact⟨hz,hd.jd h3⟩
  have xA:((List.range (aW.length*ei.size)).map f).length=aW.length*ei.size:=by simp
  have kN:∀j u,((List.range (aW.length*ei.size)).map f)[j]? =some u->w.cell? ((⟨B,off,none⟩:Addr).add j)=some u:=λj u hj=>by
   have hD:j<aW.length*ei.size:=by have:=(aB.1 hj).1;simpa using this
   rw[de];have:f j=u:=by simpa [hD] using hj
   rw[<- this];exact(kz j hD).1
  have kO:∀u∈(List.range (aW.length*ei.size)).map f,u.oneCell' =true:=λu hu=>by
   obtain⟨q,hq,rfl⟩:=List.mem_map.1 hu;exact(kz q (by simpa using hq)).2
  obtain⟨v',w',r1,r2,r3,_⟩:=run_append_own (P:=cx.P) w 0 t ty e info zv ei.size ei.bytes t2 i1 i6 i4 i5 (by rw[i7, <- i8]) hV v n xs kP ⟨B,off,none⟩ aW.length c _ xA kN kO yg xY (Nat.zero_le _);have xT:0<aW.length:=List.length_pos_iff.2 hR;refine⟨v',w',_,r1,r2,r3,λg hg=>?_,p1,λi r j d hi hj=>?_⟩
  .have yy:n+aW.length<=9223372036854775807:=by simpa [maxLen] using yg
   rcases kP.2 with ⟨rfl,rfl⟩|⟨g0,cap,cur,rfl,_,ya,zC,_,yh,_⟩
   .have:=run_append_nil (P:=cx.P) w t ty e info zv t2 i1 i6 ⟨B,off,none⟩ aW.length c _ (by rw[i4];exact xA) kN xT (by omega) (by rw[i5];rw[Nat.zero_add]at xY;omega);rw[this]at r1;cases r1;cases hg;exact .inr (Nat.le_refl _)
   .by_cases kj:n+aW.length<=cap
    .have:=run_append_room (P:=cx.P) w t ty e info t2 i1 g0 n cap cur ya ⟨B,off,none⟩ aW.length c _ (by rw[i4];exact xA) kN kO kj (by rw[xA,yh,i4, <- Nat.add_mul];exact Nat.mul_le_mul_right _ kj);rw[this]at r1;cases r1;exact .inl hg
    .have:=run_append_grow (P:=cx.P) w t ty e info zv t2 i1 i6 ⟨g0,0,none⟩ n cap xs (by rw[i4];exact kP.1) (kP.cells (g:=g0) rfl) ⟨B,off,none⟩ aW.length c _ (by rw[i4];exact xA) kN (by omega) (by omega) (by rw[i5];exact growslice_fits (by omega) xY);rw[this]at r1;cases r1;cases hg;exact .inr (Nat.le_refl _)
  .obtain⟨z,hz,hd⟩:=p3 i r j d hi hj;have hD:i*ei.size+j<aW.length*ei.size:=by
    have h1:=(aB.1 hi).1;have h2:=(aB.1 hj).1;rw[(p1 r (aD hi)).1]at h2;have:(i+1)*ei.size<=aW.length*ei.size:=Nat.mul_le_mul_right _ h1;rw[Nat.add_mul]at this;omega
   refine⟨z,?_,hd⟩;have:f (i*ei.size+j)=z:=by simp[f,hz]
   simp[hD,this]
def BB(cx:Cx)(st:St)(d:Option Nat)(t:TypeId)(s x:AV)(k:AV->List (Nat×AV)->List (Nat×Blk)->Prop):Prop :=
 match cB cx t with
 |some (e,ei)=>(match Nat.ble 1 ei.size,oI st x with
  |true,some (sz,aW)=>(match Nat.beq sz ei.size with
   |true=>(match s with
    | .own s=>(match find st.heap s with
     |some (.row e' hK rows _)=>(match Nat.beq e e',Nat.beq ei.size hK with
      |true,true=>rows.length+aW.length<=9223372036854775807/\(rows.length+aW.length)*ei.bytes<=140737488355328/\k (.own s) (il s st.aV) ((s,.row e' hK (rows++aW))::eL s st.heap)
      |_,_=>False)
     |_=>False)
    | .nil _=>(match d with
     |some d=>(match find st.heap d with
      |none=>aW.length<=9223372036854775807/\aW.length*ei.bytes<=140737488355328/\k (.own d) st.aV ((d,.row e ei.size aW)::st.heap)
      |some _=>False)
     |none=>False)
    |_=>False)
   |false=>False)
  |_,_=>False)
 |none=>False
theorem mM{w w' :World}{O O' :Nat->Prop}{size:Nat}{rows aW:List (List D)}{xs news:List Value}(hx:xs.length=rows.length*size)(hk:bw w w' O O')
 (h1:∀i r j d,rows[i]? =some r->r[j]? =some d-> ∃u,xs[i*size+j]? =some u/\Rep w O d u) (h2:∀i r j d,aW[i]? =some r->r[j]? =some d-> ∃u,news[i*size+j]? =some u/\Rep w O d u)
 (i:Nat) (r:List D) (j:Nat) (d:D) (hi:(rows++aW)[i]? =some r) (hj:r[j]? =some d):∃u,(xs++news)[i*size+j]? =some u/\Rep w' O' d u:=by
 by_cases hD:i<rows.length
 .rw[cU hD]at hi;obtain⟨u,hu,hd⟩:=h1 i r j d hi hj;refine⟨u,?_,hd.mono hk⟩;rw[cU (aB.1 hu).1];exact hu
 .rw[cL (by omega)]at hi;obtain⟨u,hu,hd⟩:=h2 _ r j d hi hj;refine⟨u,?_,hd.mono hk⟩;obtain⟨q,rfl⟩:∃q,i=rows.length+q:=⟨i-rows.length,by omega⟩
  rw[cL (by rw[hx,Nat.add_mul];omega),hx,Nat.add_mul];rw[show rows.length*size+q*size+j-rows.length*size=q*size+j by omega];rw[show rows.length+q-rows.length=q by omega]at hu;exact hu
theorem Mt(hT:bD cx){o:Oper}{s x:Operand}{t:TypeId}(ho:o.op= .call {callee:= .builtin .append,args:= #[s,x],argTypes:= #[t,t]}){k:AV->List (Nat×AV)->List (Nat×Blk)->Prop}
 (h:BB cx st o.dst t (st.ev cx s) (ju cx t (st.ev cx x)) k):∃v sl hp,jh cx o st ⟨bF sl o.dst v,hp⟩/\k v sl hp:=by
 have hM:∀(a:Act) (w:World) {z:Value} {w' :World},(Builtin.append_ #[t,t] o.type #[a.eval s,a.eval x]).run cx.P w= .ok z w' ->(execOp a.eval o).run cx.P w= .ok (.value z) w' :=λa w z w' hh=>by
  simp[execOp,ho,resolve,invoke,builtin,hh]
 unfold BB at h;split at h
 .rename_i e ei xg;split at h
  .rename_i sz aW hV xD;have hV:1<=ei.size:=bB hV;split at h
   .rename_i zi;obtain rfl:sz=ei.size:=bd zi;split at h
    .rename_i site yC;split at h
     .rename_i e' hK rows aC hf;split at h
      .rename_i c1 c2;obtain rfl:e=e' :=bd c1;obtain rfl:ei.size=hK :=bd c2;obtain⟨b1,b2,hk⟩:=h;refine⟨_,_,_,λE a w Q hd ⟨σ,hs⟩=>?_,hk⟩;have xf:=hs.ev (St.le.refl st) s;rw[yC]at xf;have xC:=jv (cx:=cx) (t:=t) (hs.ev (St.le.refl st) x);obtain⟨xs,o1,o2,o3,o4,o5⟩:=hs.holds.blk site _ hf;have hl:live st.heap site:=aH.2 ⟨_,hf⟩;obtain⟨v',w',news,r1,r2,r3,r4,r5,r6⟩:=zG (ty:=o.type) hT hs xg hV xD xC o1 (by simpa [maxLen] using b1) b2;have kH :a.eval s=σ site:=by generalize a.eval s=u at xf;cases xf;rfl
       rw[<- kH]at r1;simp only[Oper.wp,hM a w r1,Oper.upon];refine hs.GI (τ:=v') hd hl (λaa e=>by rcases o1.2 with ⟨e',_⟩|⟨_,_,_,e',_⟩ <;> (rw[e']at e;cases e)) r3.os r3.tape r3.output r3.size (λq hq hR=>r3.block q hq λe=>hR ?_) r4 (λσ' e1 hN=>?_) (λσ' e1=>?_)
       .have:(σ site).ownBlock=some q:=e.symm;generalize σ site=z at this ⊢;cases z <;> simp[Value.ownBlock]at this;rename_i aa _ _;cases aa <;> simp[Value.ownBlock]at this;simp[home,this]
       .refine⟨xs++news,by rw[e1,List.length_append];exact r2,λb hb=>?_,⟨o3.1,λe=>by cases e⟩,λr hr=>?_,mM (by rw[o1.1]) hN o5 r6⟩
        .rw[e1]at hb;rcases r4 b hb with hb|hb
         .exact o2 b hb
         .exact hs.new b (Nat.le_trans hs.frame.size hb)
        .rcases List.mem_append.1 hr with hr|hr
         .exact o4 r hr
         .exact r5 r hr
       .have:=aG.own (w:=w') (O:=E.O) (σ:=σ') site hl;rw[e1]at this;exact this
      .exact h.elim
     .exact h.elim
    .rename_i z0 yC;split at h
     .rename_i d aE;split at h
      .rename_i hf;obtain⟨b1,b2,hk⟩:=h;refine⟨_,_,_,λE a w Q hd ⟨σ,hs⟩=>?_,hk⟩;have xf:=hs.ev (St.le.refl st) s;rw[yC]at xf;have xC:=jv (cx:=cx) (t:=t) (hs.ev (St.le.refl st) x);have kH :a.eval s= .slice none 0 0:=by generalize a.eval s=u at xf;cases xf;rfl
       obtain⟨v',w',news,r1,r2,r3,r4,r5,r6⟩:=zG (ty:=o.type) hT hs xg hV xD xC (World.ownsRow_nil w 0 e ei.size) (by simpa [maxLen] using b1) (by simpa using b2);rw[<- kH]at r1;simp only[Oper.wp,hM a w r1,Oper.upon];have hn:¬live st.heap d:=by unfold live;rw[hf];simp
       let σ' :Nat->Value:=λx=>if x=d then v' else σ x
       have e1:σ' d=v' :=if_pos rfl;have e2:∀x,live st.heap x->σ' x=σ x:=λx hl=>if_neg λ(e:x=d)=>hn (e ▸ hl)
       have ke:Below w.heap.size w w' :=pP r3;have xd:∀g,home v' =some g->w.heap.size<=g:=λg hg=>by
        rcases r4 g hg with h|h
        .cases h
        .exact h
       have hN:bw w w' (Own E.O (live st.heap) σ) (Own E.O (live ([(d,Blk.row e ei.size aW)]++st.heap)) σ'):=by
        refine⟨ke.size,λx _ hx=>ke.block x hx,λx xj hx ho=>?_⟩;rcases ho with ho|⟨y,hl,e⟩
        .exact xj (.inl ho)
        .rcases cJ.1 hl with hl|hl
         .rw[cv.1 hl,e1]at e;have:=xd x e;omega
         .rw[e2 y hl]at e;exact xj (.inr ⟨y,hl,e⟩)
       have ah:live ([(d,Blk.row e ei.size aW)]++st.heap) d:=cJ.2 (.inl (cv.2 rfl));have kx:∀q0 B,E.fix q0=some B-> ¬live [(d,Blk.row e ei.size aW)] q0:=λq0 B hB hl=>by
        have h1:=(hs.fix q0 B hB).1;have h2:d<E.nt:=hd d (by assumption);have h3:q0=d:=cv.1 hl;omega
       refine⟨σ',hs.grow (bs:=[(d,Blk.row e ei.size aW)]) (v:= .own d) hd e2 ke kx (λx g hl e=>?_) (λx y g hl hS _ _=>(cv.1 hl).trans (cv.1 hS).symm) (λx b hb=>?_) ?_⟩
       .rw[cv.1 hl,e1]at e;exact xd g e
       .have hl:=cv.1 (aH.2 ⟨b,hb⟩);subst hl;rw[bk]at hb;cases hb;refine⟨news,by rw[e1];simpa using r2,λb hb=>?_,⟨hV,λe=>by cases e⟩,r5,λi r j d hi hj=>?_⟩
        .rw[e1]at hb;exact hs.new b (Nat.le_trans hs.frame.size (xd b hb))
        .obtain⟨u,hu,hd⟩:=r6 i r j d hi hj;exact⟨u,hu,hd.mono hN⟩
       .have:=aG.own (w:=w') (O:=E.O) (σ:=σ') d ah;rw[e1]at this;exact this
      .exact h.elim
     .exact h.elim
    .exact h.elim
   .exact h.elim
  .exact h.elim
 .exact h.elim
end
section
variable {cx:Cx} {st:St} {E:Env} {σ:Nat->Value} {a:Act} {w:World}
def amV:AV->Bool
 | .own _=>true
 | .d _=>true
 | .nil _=>true
 |_=>false
def xq(cx:Cx)(st:St)(t:TypeId)(m key v:AV)(k:List (Nat×Blk)->Prop):Prop :=
 match m,key,cx.ty t with
 | .omap s,.agg cs,some ⟨_,_,.map kt _,_⟩=>(match find st.heap s,cA eI cs,cx.eqT kt,ir v with
  |some (.cY mm),some kc,some ks,some x=>(match gZ ks kc with
   |true=> ∃kW,xo ks kc x mm=some kW /\k ((s,.cY kW)::st.heap)
   |false=>False)
  |_,_,_,_=>False)
 | .omap s,.d (.int ki n),some ⟨_,_,.map kt _,_⟩=>(match find st.heap s,DR cx kt (.int ki n),ir v with
  |some (.cY mm),true,some x=> ∃kW,xG (.int ki n) x mm=some kW /\k ((s,.cY kW)::st.heap)
  |_,_,_=>False)
 | .omap s,.d (.str b),some ⟨_,_,.map kt et,_⟩=>(match find st.heap s,isStr cx kt with
  |some (.smap mm),true=>(match ir v with
   |some x=>k ((s,.smap (cM b x mm))::st.heap)
   |none=>False)
  |some (.dJ mm),true=>(match amV v with
   |true=>k ((s,.dJ (cM b v mm))::st.heap)
   |false=>False)
  |_,_=>False)
 |_,_,_=>False
theorem my{α:Type}{b:List UInt8}{x:α}:∀{m:List (List UInt8×α)},bG b m=none->cM b x m=m++[(b,x)]
 |[],_=>rfl
 |(k,v)::t,h=>by
  simp only[bG]at h;split at h
  .cases h
  .rename_i hR;simp[cM,hR,my h]
theorem FP(hT:bD cx){o:Oper}{t:TypeId}{m key v:Operand}(ho:o.op= .mapUpdate t m key v\/o.op= .insert t m key v){s:Nat}(hm:st.ev cx m= .omap s){sz yF :Nat}{kt et:TypeId}{zero:List AV}(ht:cx.ty t=some ⟨sz,yF,.map kt et,zero⟩)
 {mm kW :List (List D×D)} (hf:find st.heap s=some (.cY mm)) {eq:List D->Option Bool} {kc:List D} {x:D} (kh:lp eq kc x mm=some kW) (kf:ir (st.ev cx v)=some x)
 (kB:∀(E:Env) σ a w,bN cx E st σ a w->mG cx.P kt kc eq (a.eval key)):jh cx o st ⟨bF st.aV o.dst (.tuple []),(s,.cY kW)::st.heap⟩:=by
 intro E a w Q hd ⟨σ,hs⟩;obtain⟨_,_,_,_,t2,t3,_⟩:=hT _ _ ht;have t3:=jt t3;subst t3;have xe:=hs.ev (St.le.refl st) m;rw[hm]at xe;have kT:=jr kf (hs.ev (St.le.refl st) v);obtain⟨g,es,clock,e1,e2,e3,⟨e4,e6⟩,e5⟩:=hs.holds.blk s _ hf;have hl:live st.heap s:=aH.2 ⟨_,hf⟩;have yz:a.eval m= .map (some g):=by generalize a.eval m=u at xe;cases xe;exact e1
 have hk:=kB E σ a w hs;have kA:=hk.chk false w;have hQ:(getObj g).run cx.P w= .ok (.map es clock) w:=MapKept.run_getObj_map e3;have kC:∀ob,(setObj g ob).run cx.P w= .ok () {w with heap:=w.heap.setIfInBounds g ob}:=λob=>MapKept.run_setObj_map ob e3
 have hD:g<w.heap.size:=(bI.1 e3).1;have xM:∀{w:World} {O L:Nat->Prop} {σ:Nat->Value},aG w O L σ (.tuple []) Go.undef:= .tuple [] #[] rfl λj c hj=>by simp at hj
 obtain⟨r,hr⟩:=wo kh;have hM:∀{w'},(Instr.mapUpdate t (.map (some g)) (a.eval key) (a.eval v)).run cx.P w= .ok () w' ->(execOp a.eval o).run cx.P w= .ok .skip w' :=λhh=>by
  rcases ho with ho|ho <;> simp[execOp,ho,yz,hh]
 have fin : ∀ (kv : Array MapEntry) (hJ : Nat), (execOp a.eval o).run cx.P w = .ok .skip { w with heap := w.heap.setIfInBounds g (.map kv hJ) } ->
     tD (Rep w (Own E.O (live st.heap) σ)) kW kv hJ ->
     o.wp cx.P a w (λa' w' =>Sim cx E ⟨bF st.aV o.dst (.tuple []),(s,.cY kW)::st.heap⟩ a' w') Q:=by
  intro kv hJ hC zb;simp only[Oper.wp,hC,Oper.upon];refine⟨σ,hs.write hd hl (by rw[e1];rfl) rfl rfl rfl (by simp) (λq hq=>by simp[Ne.symm hq]) (λhk=>?_) (λ_=>xM)⟩;exact⟨g,kv,hJ,e1,e2,by simp[hD],zb.mono λ_ _ h=>h.mono hk⟩
 rcases hk.find w _ mm es.toList r (by simpa using e4) (λj k v hj=>by
  obtain⟨e,he,q⟩:=e5 j k v hj;exact⟨e,by rw[bx];exact he,q⟩) hr with ⟨rfl,g2⟩|⟨j,k',v',e,rfl,g1,g3,g2,g4,g5,g6⟩
 .rw[rJ hr]at kh;cases kh;refine fin (es.push ⟨a.eval key,a.eval v,clock⟩) (clock+1) (hM ?_) ⟨⟨by simp[e4],sG e6 _ _⟩,λj k v' hj=>?_⟩
  .simp[Instr.mapUpdate,run_underlying t2,hQ,kA,g2,kC]
  .by_cases hD:j<mm.length
   .rw[cU hD]at hj;obtain⟨e,he,r⟩:=e5 j k v' hj;refine⟨e,?_,r⟩;rw[Array.getElem?_push,if_neg (by omega)];exact he
   .have:j=mm.length:=by have:=(aB.1 hj).1;simp at this;omega
    subst this;rw[cL (Nat.le_refl _)]at hj;simp at hj;obtain⟨rfl,rfl⟩:=hj;exact⟨⟨a.eval key,a.eval v,clock⟩,by rw[<- e4];simp,hk.key,kT⟩
 .rw[g6 x]at kh;cases kh;have ko:es[j]? =some e:=by rw[<- bx];exact g3
  have yb:j<es.size:=(bI.1 ko).1;have kD:(Instr.keyThatStays (((es[j]?).map (·.key)).getD (a.eval key)) (a.eval key)).run cx.P w= .ok (a.eval key) w:=by
   simp[Instr.keyThatStays,ko,g5]
  refine fin (es.modify j λe=>{e with key:=a.eval key,val:=a.eval v}) clock (hM ?_) ⟨⟨by simp[e4],pI e6 _ _ λ_=>rfl⟩,λi k v' hi=>?_⟩
  .simp only[Instr.mapUpdate,Sem.run_bind,run_underlying t2,Result.andThen,hQ,kA,g2,kD,kC]
  .rw[List.getElem?_set]at hi;rw[Array.getElem?_modify];split at hi
   .rename_i xc;subst xc
    try rw[if_pos (by omega)]at hi
    cases hi;exact⟨_,by rw[if_pos rfl,ko];rfl,hk.key,kT⟩
   .rename_i xc;obtain⟨e',ym,r⟩:=e5 i k v' hi;exact⟨e',by rw[if_neg xc];exact ym,r⟩
theorem CO(hT:bD cx){o:Oper}{t:TypeId}{m key v:Operand}(ho:o.op= .mapUpdate t m key v\/o.op= .insert t m key v){k:List (Nat×Blk)->Prop}(h:xq cx st t (st.ev cx m) (st.ev cx key) (st.ev cx v) k) :
 ∃hp,jh cx o st ⟨bF st.aV o.dst (.tuple []),hp⟩/\k hp:=by
 unfold xq at h;split at h
 .rename_i s cs sz yF kt et zero hm kB ht
  split at h
  .rename_i mm kc ks x hf ae af kf;split at h
   .rename_i xw;obtain⟨kW,kh,h⟩:=h;have heq:=cx.PJ kt ks af;rw[BT]at kh;refine⟨_,FP hT ho hm ht hf kh kf λE σ a w hs=>mG.struct heq xw ?_,h⟩;have kR:=hs.ev (St.le.refl st) key;rw[kB]at kR;generalize a.eval key=u at kR;cases kR with|agg _ vs hl hh =>
     obtain⟨l1,l2⟩:=cD ae;obtain⟨f1,f2⟩:=vO xw;refine .inr ⟨vs,rfl,by rw[hl,l1],λj d hj=>?_⟩;obtain⟨c,hc,hd⟩:=l2 j d hj;exact ny (iC hd (hh j c hc)) (f2 d (aD hj))
   .exact h.elim
  .exact h.elim
 .rename_i s ki n sz yF kt et zero hm kB ht
  split at h
  .rename_i mm x hf ag kf;obtain⟨kW,kh,h⟩:=h;rw[Ci]at kh;obtain⟨desc,zV,zW,zX⟩:=FN hT ag;refine⟨_,FP hT ho hm ht hf kh kf λE σ a w hs=>mG.flat zV zW ?_,h⟩;have kR:=hs.ev (St.le.refl st) key;rw[kB]at kR;generalize a.eval key=u at kR;cases kR with|d _ _ aq=>exact ny aq zX
  .exact h.elim
 .rename_i s b sz yF kt et zero hm kB ht
  split at h
  .rename_i mm hf xW;split at h
   .rename_i x kf;refine⟨_,λE a w Q hd ⟨σ,hs⟩=>?_,h⟩;obtain⟨_,_,_,_,t2,t3,_⟩:=hT _ _ ht;have t3:=jt t3;subst t3;obtain⟨ki,xS,yc⟩:=jH xW;obtain⟨_,_,_,_,k2,k3,_⟩:=hT _ _ xS;rw[yc]at k3;obtain rfl:=ff k3;have xe:=hs.ev (St.le.refl st) m;rw[hm]at xe;have kR:=hs.ev (St.le.refl st) key;rw[kB]at kR;have kT:=jr kf (hs.ev (St.le.refl st) v);obtain⟨bb,yN,rfl⟩:=kR.str;obtain⟨g,es,clock,e1,e2,e3,⟨e4,e6⟩,e5⟩:=hs.holds.blk s _ hf;have hl:live st.heap s:=aH.2 ⟨_,hf⟩;have yz:a.eval m= .map (some g):=by generalize a.eval m=u at xe;cases xe;exact e1
    have kA:(Instr.checkKey false 10000 kt (.string bb)).run cx.P w= .ok () w:=MapKept.run_checkKey (n:=9999) k2 (by simp[MapKept.IsKey]) _;have hQ:(getObj g).run cx.P w= .ok (.map es clock) w:=MapKept.run_getObj_map e3;have kC:∀ob,(setObj g ob).run cx.P w= .ok () {w with heap:=w.heap.setIfInBounds g ob}:=λob=>MapKept.run_setObj_map ob e3
    have hD:g<w.heap.size:=(bI.1 e3).1;have xM:∀{w:World} {O L:Nat->Prop} {σ:Nat->Value},aG w O L σ (.tuple []) Go.undef:= .tuple [] #[] rfl λj c hj=>by simp at hj
    have xO:∀(j:Nat) k v,mm[j]? =some (k,v)-> ∃e,es.toList[j]? =some e/\Rep w (Own E.O (live st.heap) σ) (.str k) e.key/\Rep w (Own E.O (live st.heap) σ) v e.val:=λj k v hj=>by
     obtain⟨e,he,r⟩:=e5 j k v hj;exact⟨e,by rw[bx];exact he,r⟩
    have fin : ∀ (kv : Array MapEntry) (hJ : Nat), (execOp a.eval o).run cx.P w = .ok .skip { w with heap := w.heap.setIfInBounds g (.map kv hJ) } ->
        ((kv.size=(cM bb.data.toList x mm).length/\jN kv hJ)/\ ∀(j:Nat) k v,(cM bb.data.toList x mm)[j]? =some (k,v)-> ∃e,kv[j]? =some e/\Rep w (Own E.O (live st.heap) σ) (.str k) e.key/\Rep w (Own E.O (live st.heap) σ) v e.val) ->
        o.wp cx.P a w (λa' w' =>Sim cx E ⟨bF st.aV o.dst (.tuple []),(s,.smap (cM bb.data.toList x mm))::st.heap⟩ a' w') Q:=by
     intro kv hJ hC ⟨f1,f2⟩;simp only[Oper.wp,hC,Oper.upon];refine⟨σ,hs.write hd hl (by rw[e1];rfl) rfl rfl rfl (by simp) (λq hq=>by simp[Ne.symm hq]) (λhk=>?_) (λ_=>xM)⟩;refine⟨g,kv,hJ,e1,e2,by simp[hD],f1,λj k v hj=>?_⟩;obtain⟨e,he,q1,q2⟩:=f2 j k v hj;exact⟨e,he,q1.mono hk,q2.mono hk⟩
    have hM:∀{w'},(Instr.mapUpdate t (.map (some g)) (.string bb) (a.eval v)).run cx.P w= .ok () w' ->(execOp a.eval o).run cx.P w= .ok .skip w' :=λhh=>by
     rcases ho with ho|ho <;> simp[execOp,ho,yz,yN,hh]
    rcases Bd (w:=w) (O:=E.O) (L:=live st.heap) (σ:=σ) bb mm es.toList 0 (by simpa using e4) xO with ⟨g1,g2⟩|⟨j,v0,e,g1,g2,g3,g4,g5,g6,g7⟩
    .refine fin (es.push ⟨.string bb,a.eval v,clock⟩) (clock+1) (hM ?_) ⟨?_,λj k v hj=>?_⟩
     .simp[Instr.mapUpdate,run_underlying t2,hQ,kA,MapKept.run_findKey k2 g2,kC]
     .rw[my g1];exact⟨by simp[e4],sG e6 _ _⟩
     .rw[my g1]at hj;by_cases hD:j<mm.length
      .rw[cU hD]at hj;obtain⟨e,he,r⟩:=e5 j k v hj;refine⟨e,?_,r⟩;rw[Array.getElem?_push,if_neg (by omega)];exact he
      .have:j=mm.length:=by have:=(aB.1 hj).1;simp at this;omega
       subst this;rw[cL (Nat.le_refl _)]at hj;simp at hj;obtain⟨rfl,rfl⟩:=hj;exact⟨⟨.string bb,a.eval _,clock⟩,by rw[<- e4];simp,.str _ _ rfl,kT⟩
    .have yb:j<es.size:=by have:=(aB.1 g3).1;simpa using this
     have ko:es[j]? =some e:=by rw[<- bx];exact g3
     have kD:(Instr.keyThatStays (((es[j]?).map (·.key)).getD (.string bb)) (.string bb)).run cx.P w= .ok (.string bb) w:=by
      have:Instr.sameBits 10000 (.string bb) (.string bb)=true:=(MapKept.bytes_beq bb bb).2 rfl;simp[Instr.keyThatStays,ko,g6,this]
     refine fin (es.modify j λe=>{e with key:= .string bb,val:=a.eval v}) clock (hM ?_) ⟨?_,λi k v' hi=>?_⟩
     .have yK :Instr.findNow .string (.string bb) es.toList 0=some (some (j,e.val)):=by rw[g2];simp
      simp only[Instr.mapUpdate,Sem.run_bind,run_underlying t2,Result.andThen,hQ,kA,MapKept.run_findKey k2 yK,kD,kC]
     .rw[g7];exact⟨by simp[e4],pI e6 _ _ λ_=>rfl⟩
     .rw[g7,List.getElem?_set]at hi;rw[Array.getElem?_modify];split at hi
      .rename_i xc;subst xc;have yZ:j<mm.length:=by omega
       try rw[if_pos yZ]at hi
       cases hi;exact⟨_,by rw[if_pos rfl,ko];rfl,.str _ _ rfl,kT⟩
      .rename_i xc;obtain⟨e',ym,r⟩:=e5 i k v' hi;exact⟨e',by rw[if_neg xc];exact ym,r⟩
   .exact h.elim
  .rename_i mm hf xW;split at h
   .rename_i ye;obtain⟨av,zw⟩:∃av,av=st.ev cx v:=⟨_,rfl⟩
    rw[<- zw]at h;refine⟨_,λE a w Q hd ⟨σ,hs⟩=>?_,h⟩;obtain⟨_,_,_,_,t2,t3,_⟩:=hT _ _ ht;have t3:=jt t3;subst t3;obtain⟨ki,xS,yc⟩:=jH xW;obtain⟨_,_,_,_,k2,k3,_⟩:=hT _ _ xS;rw[yc]at k3;obtain rfl:=ff k3;have xe:=hs.ev (St.le.refl st) m;rw[hm]at xe;have kR:=hs.ev (St.le.refl st) key;rw[kB]at kR;have kT:=hs.ev (St.le.refl st) v;rw[<- zw]at kT;obtain⟨bb,yN,rfl⟩:=kR.str;obtain⟨g,es,clock,e1,e2,e3,⟨e4,e6⟩,e5⟩:=hs.holds.blk s _ hf;have hl:live st.heap s:=aH.2 ⟨_,hf⟩;have yz:a.eval m= .map (some g):=by generalize a.eval m=u at xe;cases xe;exact e1
    have kA:(Instr.checkKey false 10000 kt (.string bb)).run cx.P w= .ok () w:=MapKept.run_checkKey (n:=9999) k2 (by simp[MapKept.IsKey]) _;have hQ:(getObj g).run cx.P w= .ok (.map es clock) w:=MapKept.run_getObj_map e3;have kC:∀ob,(setObj g ob).run cx.P w= .ok () {w with heap:=w.heap.setIfInBounds g ob}:=λob=>MapKept.run_setObj_map ob e3
    have hD:g<w.heap.size:=(bI.1 e3).1;have xM:∀{w:World} {O L:Nat->Prop} {σ:Nat->Value},aG w O L σ (.tuple []) Go.undef:= .tuple [] #[] rfl λj c hj=>by simp at hj
    have xO:∀(j:Nat) k v,mm[j]? =some (k,v)-> ∃e,es.toList[j]? =some e/\eD (.str k) e.key/\aG w E.O (live st.heap) σ v e.val:=λj k v hj=>by
     obtain⟨e,he,r⟩:=e5 j k v hj;exact⟨e,by rw[bx];exact he,r⟩
    have fin : ∀ (kv : Array MapEntry) (hJ : Nat), (execOp a.eval o).run cx.P w = .ok .skip { w with heap := w.heap.setIfInBounds g (.map kv hJ) } ->
        ((kv.size=(cM bb.data.toList av mm).length/\jN kv hJ)/\ ∀(j:Nat) k v,(cM bb.data.toList av mm)[j]? =some (k,v)-> ∃e,kv[j]? =some e/\eD (.str k) e.key/\aG w E.O (live st.heap) σ v e.val) ->
        o.wp cx.P a w (λa' w' =>Sim cx E ⟨bF st.aV o.dst (.tuple []),(s,.dJ (cM bb.data.toList av mm))::st.heap⟩ a' w') Q:=by
     intro kv hJ hC ⟨f1,f2⟩;simp only[Oper.wp,hC,Oper.upon];refine⟨σ,hs.write hd hl (by rw[e1];rfl) rfl rfl rfl (by simp) (λq hq=>by simp[Ne.symm hq]) (λhk=>?_) (λ_=>xM)⟩;refine⟨g,kv,hJ,e1,e2,by simp[hD],f1,λj k v hj=>?_⟩;obtain⟨e,he,q1,q2⟩:=f2 j k v hj;exact⟨e,he,q1,q2.mono hk λy hy=>⟨hy,rfl⟩⟩
    have hM:∀{w'},(Instr.mapUpdate t (.map (some g)) (.string bb) (a.eval v)).run cx.P w= .ok () w' ->(execOp a.eval o).run cx.P w= .ok .skip w' :=λhh=>by
     rcases ho with ho|ho <;> simp[execOp,ho,yz,yN,hh]
    rcases zF (R:=aG w E.O (live st.heap) σ) bb mm es.toList 0 (by simpa using e4) xO with ⟨g1,g2⟩|⟨j,v0,e,g1,g2,g3,g4,g5,g6,g7⟩
    .refine fin (es.push ⟨.string bb,a.eval v,clock⟩) (clock+1) (hM ?_) ⟨?_,λj k v hj=>?_⟩
     .simp[Instr.mapUpdate,run_underlying t2,hQ,kA,MapKept.run_findKey k2 g2,kC]
     .rw[my g1];exact⟨by simp[e4],sG e6 _ _⟩
     .rw[my g1]at hj;by_cases hD:j<mm.length
      .rw[cU hD]at hj;obtain⟨e,he,r⟩:=e5 j k v hj;refine⟨e,?_,r⟩;rw[Array.getElem?_push,if_neg (by omega)];exact he
      .have:j=mm.length:=by have:=(aB.1 hj).1;simp at this;omega
       subst this;rw[cL (Nat.le_refl _)]at hj;simp at hj;obtain⟨rfl,rfl⟩:=hj;exact⟨⟨.string bb,a.eval _,clock⟩,by rw[<- e4];simp,⟨_,rfl,rfl⟩,kT⟩
    .have yb:j<es.size:=by have:=(aB.1 g3).1;simpa using this
     have ko:es[j]? =some e:=by rw[<- bx];exact g3
     have kD:(Instr.keyThatStays (((es[j]?).map (·.key)).getD (.string bb)) (.string bb)).run cx.P w= .ok (.string bb) w:=by
      have:Instr.sameBits 10000 (.string bb) (.string bb)=true:=(MapKept.bytes_beq bb bb).2 rfl;simp[Instr.keyThatStays,ko,g6,this]
     refine fin (es.modify j λe=>{e with key:= .string bb,val:=a.eval v}) clock (hM ?_) ⟨?_,λi k v' hi=>?_⟩
     .have yK :Instr.findNow .string (.string bb) es.toList 0=some (some (j,e.val)):=by rw[g2];simp
      simp only[Instr.mapUpdate,Sem.run_bind,run_underlying t2,Result.andThen,hQ,kA,MapKept.run_findKey k2 yK,kD,kC]
     .rw[g7];exact⟨by simp[e4],pI e6 _ _ λ_=>rfl⟩
     .rw[g7,List.getElem?_set]at hi;rw[Array.getElem?_modify];split at hi
      .rename_i xc;subst xc;have yZ:j<mm.length:=by omega
       try rw[if_pos yZ]at hi
       cases hi;exact⟨_,by rw[if_pos rfl,ko];rfl,⟨_,rfl,rfl⟩,kT⟩
      .rename_i xc;obtain⟨e',ym,r⟩:=e5 i k v' hi;exact⟨e',by rw[if_neg xc];exact ym,r⟩
   .exact h.elim
  .exact h.elim
 .exact h.elim
end
def iU(s:Nat):List (Nat×Blk)->List (Nat×Blk)
 |[]=>[]
 |(k,b)::t=>(match Nat.beq k s with|true=>iU s t|false=>(k,b)::iU s t)
theorem pR{s x:Nat}:∀{h:List (Nat×Blk)},find (iU s h) x=if x=s then none else find h x
 |[]=>by simp[iU,find]
 |(k,b)::t=>by
  simp only[iU];by_cases e:k=s
  .subst e;simp only[show Nat.beq k k=true by simp];rw[pR (h:=t)];by_cases hx:x=k
   .rw[if_pos hx,if_pos hx]
   .rw[if_neg hx,if_neg hx,bl _ _ (Ne.symm hx)]
  .have hb:Nat.beq k s=false:=by rw[<- Bool.not_eq_true];exact λh=>e (bd h)
   simp only[hb];by_cases hx:k=x
   .subst hx;rw[bk,if_neg e,bk]
   .rw[bl _ _ hx,bl _ _ hx,pR (h:=t)]
def iu(s:Nat)(x:D):AV->AV
 | .own s' =>(match Nat.beq s s' with|true=> .d x|false=> .own s')
 | .dm s' a b c=>(match Nat.beq s s' with|true=> .undef|false=> .dm s' a b c)
 | .tl s' a b=>(match Nat.beq s s' with|true=> .undef|false=> .tl s' a b)
 | .ptr s' o=>(match Nat.beq s s' with|true=>(match o with|0=> .d x|_+1=> .undef)|false=> .ptr s' o)
 | .omap s' =>(match Nat.beq s s' with|true=> .d x|false=> .omap s')
 | .d y=> .d y
 | .nil z=> .nil z
 | .maybe p=> .maybe p
 |_=> .undef
def BP(s:Nat)(x:D):AV->AV
 | .agg cs=> .agg (cs.map (iu s x))
 | .fn f a b=> .fn f (a.map (iu s x)) (b.map (iu s x))
 |v=>iu s x v
def frz(s:Nat)(x:D):AV->AV
 | .tuple vs=> .tuple (vs.map (BP s x))
 |v=>BP s x v
def ou(s:Nat)(x:D):Blk->Blk
 | .box cells=> .box (cells.map (iu s x))
 | .eF e z rows=> .eF e z (rows.map λr=>r.map (BP s x))
 | .dJ m=> .dJ (m.map λp=>(p.1,iu s x p.2))
 |b=>b
def St.freeze(st:St)(s:Nat):St :=
 match find st.heap s with
 |some (.row _ sz rows _)=>⟨st.aV.map λp=>(p.1,frz s (.slice sz rows) p.2),(iU s st.heap).map λp=>(p.1,ou s (.slice sz rows) p.2)⟩
 |some (.cY m)=>⟨st.aV.map λp=>(p.1,frz s (.cY m) p.2),(iU s st.heap).map λp=>(p.1,ou s (.cY m) p.2)⟩
 |some (.smap m)=>⟨st.aV.map λp=>(p.1,frz s (.cY (m.map Rb)) p.2),(iU s st.heap).map λp=>(p.1,ou s (.cY (m.map Rb)) p.2)⟩
 |some (.box cells)=>(match cA eI cells with|some ds=>⟨st.aV.map λp=>(p.1,frz s (.ptr ds) p.2),(iU s st.heap).map λp=>(p.1,ou s (.ptr ds) p.2)⟩|none=>st)
 |_=>st
def St.bP(st:St):List Nat->St
 |[]=>st
 |s::t=>(st.freeze s).bP t
section
variable {w:World} {O L:Nat->Prop} {σ:Nat->Value} {s:Nat} {x:D}
theorem fK:bw w w (Own O L σ) (Own O (λy=>L y/\y≠s) σ):=bw.less λb hb=>by
 rcases hb with hb|⟨y,⟨hy,_⟩,e⟩
 .exact .inl hb
 .exact .inr ⟨y,hy,e⟩
theorem ot(hx:Rep w (Own O (λy=>L y/\y≠s) σ) x (σ s)){c:AV}{v:Value}(h:aG w O L σ c v):aG w O (λy=>L y/\y≠s) σ (iu s x c) v:=by
 cases h with
 |undef=>exact .undef _
 |d y v h=>exact .d _ _ (h.mono fK)
 |nil=>exact .nil _
 |maybe p b h=>exact .maybe p b h
 |ptr s' off b hL h =>
  simp only[iu];split
  .rename_i e;obtain rfl:s=s' :=bd e;cases off with
   |zero=>rw[h]at hx;exact .d _ _ hx
   |succ=>exact .undef _
  .rename_i e;exact .ptr _ _ b ⟨hL,sx e⟩ h
 |own s' hL =>
  simp only[iu];split
  .rename_i e;obtain rfl:s=s' :=bd e;exact .d _ _ hx
  .rename_i e;exact .own _ ⟨hL,sx e⟩
 |dm s' size i off b n cap o0 hL h=>simp only[iu];split;exact .undef _;rename_i e;exact .dm _ _ _ _ b n cap o0 ⟨hL,sx e⟩ h
 |tl s' size i b n cap o0 hL h=>simp only[iu];split;exact .undef _;rename_i e;exact .tl _ _ _ b n cap o0 ⟨hL,sx e⟩ h
 |omap s' hL =>
  simp only[iu];split
  .rename_i e;obtain rfl:s=s' :=bd e;exact .d _ _ hx
  .rename_i e;exact .omap _ ⟨hL,sx e⟩
 |agg=>exact .undef _
 |tuple=>exact .undef _
 |fn=>exact .undef _
theorem fH{f:AV->AV}{cs:List AV}{vs:Array Value}{R R' :AV->Value->Prop}(hf:∀c v,R c v->R' (f c) v)(h:∀j c,cs[j]? =some c->R c (vs.getD j Go.undef))(j:Nat)(c:AV)(hj:(cs.map f)[j]? =some c):R' c (vs.getD j Go.undef):=by
 rw[bc]at hj;cases hc:cs[j]? with
 |none=>rw[hc]at hj;cases hj
 |some y=>rw[hc]at hj;cases hj;exact hf _ _ (h j y hc)
theorem yS(hx:Rep w (Own O (λy=>L y/\y≠s) σ) x (σ s)){c:AV}{v:Value}(h:aG w O L σ c v):aG w O (λy=>L y/\y≠s) σ (BP s x c) v:=by
 cases c with
 |agg cs=>cases h with|agg _ vs hl hh=>exact .agg _ _ (by simpa using hl) (fH (λc v=>ot hx) hh)
 |fn f a b=>cases h with|fn _ _ _ xs vs zo hl h1 h2=>exact .fn _ _ _ _ _ (by simpa using zo) (by simpa using hl) (fH (λc v=>ot hx) h1) (fH (λc v=>ot hx) h2)
 |_=>exact ot hx h
theorem SC(hx:Rep w (Own O (λy=>L y/\y≠s) σ) x (σ s)){c:AV}{v:Value}(h:aG w O L σ c v):aG w O (λy=>L y/\y≠s) σ (frz s x c) v:=by
 cases c with
 |tuple vs=>cases h with|tuple _ us hl hh=>exact .tuple _ _ (by simpa using hl) (fH (λc v=>yS hx) hh)
 |_=>exact yS hx h
theorem Fw(h1:x.one=true){c:AV}(h:c.one=true\/c= .undef):(iu s x c).one=true\/iu s x c= .undef:=by
 rcases h with h|rfl
 .cases c <;> simp only[iu] <;> first|exact .inl h|exact .inr rfl|exact .inr trivial|(split <;> first|exact .inr rfl|exact .inl rfl|exact .inl h1|(split <;> first|exact .inr rfl|exact .inl h1))
 .exact .inr rfl
theorem PT(h1:x.one=true){c:AV}(h:c.one=true\/c= .undef):(BP s x c).one=true\/BP s x c= .undef:=by
 cases c with
 |agg=>rcases h with h|h <;> cases h
 |tuple=>rcases h with h|h <;> cases h
 |fn=>exact .inl rfl
 |_=>exact Fw (s:=s) h1 h
end
theorem bN.frz{cx:Cx}{E:Env}{st:St}{σ:Nat->Value}{a:Act}{w:World}{s:Nat}{x:D}(hs:bN cx E st σ a w)(hl:live st.heap s)(h1:x.one=true)(hx:Rep w (Own E.O (λy=>live st.heap y/\y≠s) σ) x (σ s)) :
 bN cx E ⟨st.aV.map λp=>(p.1,NQ.frz s x p.2),(iU s st.heap).map λp=>(p.1,ou s x p.2)⟩ σ a w:=by
 have ka:live ((iU s st.heap).map λp=>(p.1,ou s x p.2))=λy=>live st.heap y/\y≠s:=funext λy=>by
  unfold live;rw[lN,pR];by_cases e:y=s
  .simp[e]
  .rw[if_neg e];cases find st.heap y <;> simp[e]
 refine⟨hs.frame,hs.new,hs.apart,hs.defers,hs.nt,λt=>?_,⟨λy b hb=>?_,λy y' b ly az =>?_⟩,hs.fI,hs.dQ,λq0 B hB=>⟨(hs.fix q0 B hB).1,λh=>(hs.fix q0 B hB).2 (by have h' :live ((iU s st.heap).map λp=>(p.1,ou s x p.2)) q0:=h;rw[ka]at h';exact h'.1)⟩⟩
 .show aG w E.O (live ((iU s st.heap).map λp=>(p.1,ou s x p.2))) σ (St.get ⟨st.aV.map λp=>(p.1,NQ.frz s x p.2),_⟩ t) _
  rw[ka];have hg:St.get ⟨st.aV.map λp=>(p.1,NQ.frz s x p.2),(iU s st.heap).map λp=>(p.1,ou s x p.2)⟩ t=NQ.frz s x (st.get t):=by
   simp only[St.get,lN];cases find st.aV t <;> rfl
  rw[hg];exact SC hx (hs.aV t)
 .show cZ w E.F E.O (live ((iU s st.heap).map λp=>(p.1,ou s x p.2))) σ y b
  rw[ka];have kG:find ((iU s st.heap).map λp=>(p.1,ou s x p.2)) y=some b:=hb;rw[lN,pR]at kG;by_cases ey:y=s
  .rw[if_pos ey]at kG;cases kG
  .rw[if_neg ey]at kG;cases hfy:find st.heap y with
   |none=>rw[hfy]at kG;cases kG
   |some b0 =>
    rw[hfy]at kG;have hold:=hs.holds.blk y b0 hfy;cases b0 with
    |box cells =>
     cases kG;obtain⟨g,cur,t,p1,p2,p3,p4,p5⟩:=hold;refine⟨g,cur,t,p1,p2,p3,by simpa using p4,λj c hj=>?_⟩;refine⟨?_,fH (f:=iu s x) (R:=aG w E.O (live st.heap) σ) (R' :=aG w E.O (λy=>live st.heap y/\y≠s) σ) (λc v h=>ot hx h) (λj c hj=>(p5 j c hj).2) j c hj⟩;rw[bc]at hj;cases hc:cells[j]? with
     |none=>rw[hc]at hj;cases hj
     |some z=>rw[hc]at hj;cases hj;exact Fw h1 (p5 j z hc).1
    |row e' zO hA fl' =>
     cases kG;obtain⟨xs,p1,p2,p3,p4,p5⟩:=hold;refine⟨xs,p1,p2,p3,p4,λi r j d hi hj=>?_⟩;obtain⟨u,hu,hd⟩:=p5 i r j d hi hj;exact⟨u,hu,hd.mono fK⟩
    |smap m =>
     cases kG;obtain⟨g,es,cl,p1,p2,p3,p4,p5⟩:=hold;refine⟨g,es,cl,p1,p2,p3,p4,λj k v hj=>?_⟩;obtain⟨e,he,q1,q2⟩:=p5 j k v hj;exact⟨e,he,q1.mono fK,q2.mono fK⟩
    |cY m=>cases kG;obtain⟨g,es,cl,p1,p2,p3,p4⟩:=hold;exact⟨g,es,cl,p1,p2,p3,p4.mono λ_ _ h=>h.mono fK⟩
    |eF e size hA =>
     cases kG;obtain⟨g,cur,t,p1,p2,p3,p4,p5⟩:=hold;refine⟨g,cur,t,by rw[aA];exact p1,p2,p3,λr hr=>?_,λi r j c hi hj=>?_⟩
     .obtain⟨r0,xB,rfl⟩:=List.mem_map.1 hr;rw[aA];exact p4 r0 xB
     .obtain⟨r0,c0,k1,k2,rfl⟩:=zk hi hj;exact⟨⟨PT h1 (p5 i r0 j c0 k1 k2).1.1,(p5 i r0 j c0 k1 k2).1.2⟩,yS hx (p5 i r0 j c0 k1 k2).2⟩
    |tail e size hA =>
     cases kG;exact⟨hold.1.mono (λ_ _=>rfl) λ_ _ hr=>hr.mono fK,hold.2⟩
    |iter left cur =>
     cases kG;exact⟨hold.1.mono (λ_ _=>rfl) fK,hold.2⟩
    |dJ m =>
     cases kG;obtain⟨g,es,cl,p1,p2,p3,p4,p5⟩:=hold;refine⟨g,es,cl,p1,p2,p3,by rw[aA];exact p4,λj k v hj=>?_⟩;obtain⟨v0,yb,rfl⟩:=tL hj;obtain⟨e,he,q1,q2⟩:=p5 j k v0 yb;exact⟨e,he,q1,ot hx q2⟩
 .have l1:live ((iU s st.heap).map λp=>(p.1,ou s x p.2)) y:=ly;have l2:live ((iU s st.heap).map λp=>(p.1,ou s x p.2)) y' :=az;rw[ka]at l1 l2;exact hs.holds.inj y y' b l1.1 l2.1
theorem Sim.freeze{cx:Cx}{E:Env}{st:St}{a:Act}{w:World}(s:Nat)(h:Sim cx E st a w):Sim cx E (st.freeze s) a w:=by
 unfold St.freeze;split
 .rename_i e sz rows fl hf;obtain⟨σ,hs⟩:=h;have hl:live st.heap s:=aH.2 ⟨_,hf⟩;have hx:Rep w (Own E.O (λy=>live st.heap y/\y≠s) σ) (.slice sz rows) (σ s):=by
   obtain⟨xs,o1,o2,o3,o4,o5⟩:=hs.holds.blk s _ hf;rcases o1.2 with ⟨e1,e2⟩|⟨g,cap,cur,e1,_,e3,e4,_,e6,e7⟩
   .obtain rfl:rows=[]:=List.eq_nil_of_length_eq_zero e2;rw[e1];exact .empty _ _ _
   .rw[e1];have hg:home (σ s)=some g:=by rw[e1];rfl
    have xj:¬Own E.O (λy=>live st.heap y/\y≠s) σ g:=by
     rintro(ho|⟨y,⟨hy,hR⟩,ey⟩)
     .exact hs.apart g ho (o2 g hg)
     .exact hR (hs.holds.inj y s g hy hl ey hg)
    have hQ:∀(i:Nat) r (j:Nat) d,rows[i]? =some r->r[j]? =some d->w.cell? ⟨g,0+i*sz+j,none⟩=some (xs.getD (i*sz+j) Go.undef)/\Rep w (Own E.O (λy=>live st.heap y/\y≠s) σ) d (xs.getD (i*sz+j) Go.undef):=by
     intro i r j d hi hj;obtain⟨u,hu,hd⟩:=o5 i r j d hi hj;have hx:xs.getD (i*sz+j) Go.undef=u:=by simp[List.getD,hu]
     rw[hx];refine⟨?_,hd.mono fK⟩;rw[<- e7,List.getElem?_take]at hu;split at hu
     .simp only[World.cell?,e3,Nat.zero_add];simpa using hu
     .cases hu
    exact .slice sz rows g 0 _ cap (λi j=>xs.getD (i*sz+j) Go.undef) rfl xj (bI.1 e3).1 e4 o4 (λi r j d hi hj=>(hQ i r j d hi hj).1) (λi r j d hi hj=>(hQ i r j d hi hj).2)
  exact⟨σ,hs.frz hl rfl hx⟩
 .rename_i m hf;obtain⟨σ,hs⟩:=h;have hl:live st.heap s:=aH.2 ⟨_,hf⟩;obtain⟨g,es,clock,e1,e2,e3,e4⟩:=hs.holds.blk s _ hf;have hg:home (σ s)=some g:=by rw[e1];rfl
  have xj:¬Own E.O (λy=>live st.heap y/\y≠s) σ g:=by
   rintro(ho|⟨y,⟨hy,hR⟩,ey⟩)
   .exact hs.apart g ho e2
   .exact hR (hs.holds.inj y s g hy hl ey hg)
  exact⟨σ,hs.frz hl rfl (by rw[e1];exact .ofMap xj (bI.1 e3).1 e3 (e4.mono λ_ _ h=>h.mono fK))⟩
 .rename_i m hf;obtain⟨σ,hs⟩:=h;have hl:live st.heap s:=aH.2 ⟨_,hf⟩;obtain⟨g,es,clock,e1,e2,e3,e4,e5⟩:=hs.holds.blk s _ hf;have hg:home (σ s)=some g:=by rw[e1];rfl
  have xj:¬Own E.O (λy=>live st.heap y/\y≠s) σ g:=by
   rintro(ho|⟨y,⟨hy,hR⟩,ey⟩)
   .exact hs.apart g ho e2
   .exact hR (hs.holds.inj y s g hy hl ey hg)
  refine⟨σ,hs.frz hl rfl ?_⟩;rw[e1];refine .ofMap xj (bI.1 e3).1 e3 ⟨⟨by simpa using e4.1,e4.2⟩,λj k v hj=>?_⟩;rw[bc]at hj;cases hp:m[j]? with
  |none=>rw[hp]at hj;cases hj
  |some p =>
   obtain⟨k0,v0⟩:=p;rw[hp]at hj;cases hj;obtain⟨e,h1,h2,h3⟩:=e5 j k0 v0 hp;exact⟨e,h1,.inl ⟨_,rfl,ny h2 rfl⟩,h3.mono fK⟩
 .rename_i cells hf;split
  .rename_i ds hv;obtain⟨σ,hs⟩:=h;have hl:live st.heap s:=aH.2 ⟨_,hf⟩;obtain⟨g,cur,t,e1,e2,e3,e4,e5⟩:=hs.holds.blk s _ hf;obtain⟨_,hQ⟩:=cD hv;have hg:home (σ s)=some g:=by rw[e1];rfl
   have xj:¬Own E.O (λy=>live st.heap y/\y≠s) σ g:=by
    rintro(ho|⟨y,⟨hy,hR⟩,ey⟩)
    .exact hs.apart g ho e2
    .exact hR (hs.holds.inj y s g hy hl ey hg)
   have key:∀j d,ds[j]? =some d->d.one=true/\j<cur.size/\Rep w (Own E.O (λy=>live st.heap y/\y≠s) σ) d (cur.getD j Go.undef):=λj d hj=>by
    obtain⟨c,hc,hf⟩:=hQ j d hj;obtain⟨h1,h2⟩:=e5 j c hc;have hD:j<cur.size:=by rw[e4];exact(aB.1 hc).1
    generalize cur.getD j Go.undef=u at h2
    cases c <;> simp only[eI]at hf <;> first|(cases hf;done)|skip
    case d y =>
     cases hf;refine⟨?_,hD,?_⟩
     .rcases h1 with h1|h1
      .exact h1
      .cases h1
     .cases h2 with|d _ _ h2=>exact h2.mono fK
    case nil sz =>
     cases hf;refine⟨rfl,hD,?_⟩;cases h2;exact .empty _ _ _
   refine⟨σ,hs.frz hl rfl ?_⟩;rw[e1];refine .ptr ds g 0 (λj=>cur.getD j Go.undef) xj (bI.1 e3).1 (λd hd=>?_) (λj d hj=>?_) (λj d hj=>(key j d hj).2.2)
   .obtain⟨j,hj⟩:=cQ hd;exact(key j d hj).1
   .have:=(key j d hj).2.1;simp[World.cell?,e3,this]
  .exact h
 .exact h
theorem Sim.bP{cx:Cx}{E:Env}{a:Act}{w:World}:∀(l:List Nat) {st:St},Sim cx E st a w->Sim cx E (st.bP l) a w
 |[],st,h=>h
 |s::t,st,h=>Sim.bP t (h.freeze s)
def FnR(cx:Cx)(f:FuncId)(eB:Bool)(e:TypeId)(sz:Nat)(rows:List (List D))(fl:Bool)(args:List D)(hA :List (List D)):Prop :=
 gq cx.P f/\ ∀(O:Nat->Prop) (w:World) (v:Value) (vs:Array Value) (xs:List Value),(∀b,O b->b<w.heap.size)->jC cx w->(∀g cells,cx.gl g=some cells-> ¬O g)->(∀g,home v=some g->O g) ->
  w.ownsRow 0 e sz v rows.length xs->(fl=true-> ∃a,v= .slice a rows.length rows.length)->0<sz->(∀r∈rows,r.length=sz/\ ∀d∈r,d.one=true) ->
  (∀i r j d,rows[i]? =some r->r[j]? =some d-> ∃u,xs[i*sz+j]? =some u/\Rep w O d u)->vs.size=args.length->(∀(j:Nat) d,args[j]? =some d->Rep w O d (vs.getD j Go.undef)) ->
  Calls cx.P f (#[v]++vs) w λen w' => ∃v' xJ,(match eB with|true=>en= .returned v' |false=>en= .returned Go.undef/\v' =v)/\w'.os=w.os/\w'.tape=w.tape/\w'.output=w.output/\w.heap.size<=w'.heap.size /\
   (∀k,k<w.heap.size->home v≠some k->w'.heap[k]? =w.heap[k]?)/\(∀g,home v' =some g->home v=some g\/w.heap.size<=g)/\w'.ownsRow 0 e sz v' hA.length xJ /\(∀r∈hA,r.length=sz/\ ∀d∈r,d.one=true) /\
   ∀i r j d,hA[i]? =some r->r[j]? =some d-> ∃u,xJ[i*sz+j]? =some u/\Rep w' (λb=>(O b/\home v≠some b)\/home v' =some b) d u
def TB(cx:Cx)(f:FuncId)(eB:Bool)(e:TypeId)(sz:Nat)(rows:List (List D))(fl:Bool)(args:List D)(hA :List (List D)):Prop :=
 gq cx.P f/\ ∀(O:Nat->Prop) (w:World) (v:Value) (vs:Array Value) (xs:List Value),(∀b,O b->b<w.heap.size)->jC cx w->(∀g cells,cx.gl g=some cells-> ¬O g)->(∀g,home v=some g->O g) ->
  w.ownsRow 0 e sz v rows.length xs->(fl=true-> ∃a,v= .slice a rows.length rows.length)->0<sz->(∀r∈rows,r.length=sz/\ ∀d∈r,d.one=true) ->
  (∀i r j d,rows[i]? =some r->r[j]? =some d-> ∃u,xs[i*sz+j]? =some u/\Rep w O d u)->vs.size=args.length->(∀(j:Nat) d,args[j]? =some d->Rep w O d (vs.getD j Go.undef)) ->
  Calls cx.P f (#[v]++vs) w λen w' => ∃v' xJ,(match eB with|true=>en= .returned v' |false=>en= .returned Go.undef/\v' =v)/\w'.os=w.os/\w'.tape=w.tape/\w'.output=w.output/\w.heap.size<=w'.heap.size /\
   (∀k,k<w.heap.size->home v≠some k->w'.heap[k]? =w.heap[k]?)/\(∀g,home v' =some g->home v=some g\/w.heap.size<=g)/\w'.ownsRow 0 e sz v' hA.length xJ /\(∀r∈hA,r.length=sz/\ ∀d∈r,d.one=true) /\
   ∀i r j d,hA[i]? =some r->r[j]? =some d-> ∃u,xJ[i*sz+j]? =some u/\Rep w O d u
theorem Sz{cx:Cx}{f:FuncId}{eB:Bool}{e:TypeId}{sz:Nat}{rows:List (List D)}{fl:Bool}{args:List D}{hA :List (List D)}(h:TB cx f eB e sz rows fl args hA):FnR cx f eB e sz rows fl args hA :=by
 refine⟨h.1,λO w v vs xs hO hG zQ hv h1 h2 h3 h4 h5 h6 h7=>(h.2 O w v vs xs hO hG zQ hv h1 h2 h3 h4 h5 h6 h7).mono ?_⟩;rintro en w' ⟨v',xJ,g1,q1,q2,q3,q4,q5,q6,q7,q8,q9⟩;refine⟨v',xJ,g1,q1,q2,q3,q4,q5,q6,q7,q8,λi r j d hi hj=>?_⟩;obtain⟨u,hu,hd⟩:=q9 i r j d hi hj;refine⟨u,hu,hd.mono ⟨q4,λb hb hD=>q5 b hD λe=>hb (hv b e),λb hb hD ho=>?_⟩⟩;rcases ho with ⟨ho,_⟩|ho
 .exact hb ho
 .rcases q6 b ho with e|e
  .exact hb (hv b e)
  .omega
theorem Sim.born{cx:Cx}{E:Env}{st:St}{a:Act}{w:World}(s:Nat)(e:TypeId)(hK :Nat)(h2:find st.heap s=none)(h3:0<hK)(h4:s<100000)(h:Sim cx E st a w):∃σ,bN cx E ⟨st.aV,(s,.row e hK [])::st.heap⟩ σ a w/\σ s= .slice none 0 0:=by
 obtain⟨σ,hs⟩:=h;have hn:¬live st.heap s:=by unfold live;rw[h2];simp
 let σ' :Nat->Value:=λx=>if x=s then .slice none 0 0 else σ x
 have e1:σ' s= .slice none 0 0:=if_pos rfl;have e2:∀x,live st.heap x->σ' x=σ x:=λx hl=>if_neg λ(e:x=s)=>hn (e ▸ hl)
 have hL:∀x,live ((s,Blk.row e hK [])::st.heap) x ↔ x=s\/live st.heap x:=λx=>by
  have:=cJ (bs:=[(s,Blk.row e hK [])]) (h:=st.heap) (s:=x);rw[cv]at this;exact this
 have hk:bw w w (Own E.O (live st.heap) σ) (Own E.O (live ((s,Blk.row e hK [])::st.heap)) σ'):=bw.less λb hb=>by
  rcases hb with hb|⟨x,hl,hx⟩
  .exact .inl hb
  .rcases (hL x).1 hl with rfl|hl
   .rw[e1]at hx;cases hx
   .rw[e2 x hl]at hx;exact .inr ⟨x,hl,hx⟩
 have kU:∀x,live st.heap x->live ((s,Blk.row e hK [])::st.heap) x/\σ' x=σ x:=λx hl=>⟨(hL x).2 (.inr hl),e2 x hl⟩
 refine⟨σ',⟨hs.frame,hs.new,hs.apart,hs.defers,hs.nt,λq=>(hs.aV q).mono hk kU,⟨λx b hb=>?_,λx y b l l' f f' =>?_⟩,hs.fI,hs.dQ,λq0 B hB=>⟨(hs.fix q0 B hB).1,λh=>?_⟩⟩,e1⟩
 .have km :find ((s,Blk.row e hK [])::st.heap) x=some b:=hb;rw[fu]at km;split at km
  .rename_i hx;subst hx;cases km;exact⟨[],by rw[e1];exact World.ownsRow_nil w 0 e hK,(λb hb=>by rw[e1]at hb;cases hb),⟨h3,λe=>by cases e⟩,λr hr=>by simp at hr,λi r j d hi=>by simp at hi⟩
  .have hl:live st.heap x:=aH.2 ⟨b,km⟩;exact(hs.holds.blk x b km).mono hk kU hl λg _=>rfl
 .rcases (hL x).1 l with rfl|l
  .rw[e1]at f;cases f
  .rcases (hL y).1 l' with rfl|l'
   .rw[e1]at f';cases f'
   .rw[e2 x l]at f;rw[e2 y l']at f';exact hs.holds.inj x y b l l' f f'
 .rcases (hL _).1 h with e|h
  .have aJ:=(hs.fix q0 B hB).1.2;omega
  .rw[e2 _ h];exact(hs.fix q0 B hB).2 h
def tr:List AV->List Nat
 |[]=>[]
 | .own s::t=>s::tr t
 |_::t=>tr t
def QA(cx:Cx)(st0:St)(d:Option Nat)(eB:Bool)(f:FuncId)(args:List Operand)(ts:List TypeId)(k:AV->St->Prop):Prop :=
 let st:=st0.bP (tr ((cz cx st0 args ts).drop 1))
 match cz cx st args ts with
 | .own s::rest=>(match find st.heap s,cA ir rest with
  |some (.row e sz rows fl),some ds=> ∃hA,FnR cx f eB e sz rows fl ds hA /\(match eB with|true=>k (.own s) ⟨il s st.aV,(s,.row e sz hA)::eL s st.heap⟩|false=>k (.tuple []) ⟨st.aV,(s,.row e sz hA)::st.heap⟩)
  |_,_=>False)
 | .nil _::rest=>(match d,ts with
  |some d,t::_=>(match cB cx t,find st.heap d,cA ir rest,eB with
   |some (e,ei),none,some ds,true=>(match Nat.ble 1 ei.size,Nat.blt d 100000 with
    |true,true=> ∃hA,FnR cx f true e ei.size [] false ds hA /\k (.own d) ⟨il d st.aV,(d,.row e ei.size hA)::eL d ((d,.row e ei.size [])::st.heap)⟩
    |_,_=>False)
   |_,_,_,_=>False)
  |_,_=>False)
 |_=>False
theorem tM{cx:Cx}{sl:List (Nat×AV)}{h h' :List (Nat×Blk)}:∀(xs:List Operand) (ts:List TypeId),cz cx ⟨sl,h⟩ xs ts=cz cx ⟨sl,h'⟩ xs ts
 |[],_=>rfl
 |x::xs,t::ts=>by simp only[cz];rw[tM xs ts];cases x <;> rfl
 |x::xs,[]=>by simp only[cz];rw[tM xs []];cases x <;> rfl
def RN(eB:Bool)(s:Nat):AV:=match eB with|true=> .own s|false=> .tuple []
def RM(eB:Bool)(s:Nat)(sl:List (Nat×AV)):List (Nat×AV):=match eB with|true=>il s sl|false=>sl
def RL(eB:Bool)(s:Nat)(h:List (Nat×Blk)):List (Nat×Blk):=match eB with|true=>eL s h|false=>h
theorem Jy{cx:Cx}{st:St}{o:Oper}{c:Call}{f:FuncId}{eB:Bool}(ho:o.op= .call c)(hc:c.callee= .value (.func f)){s:Nat}{rest:List AV}{e:TypeId}{sz:Nat}{rows:List (List D)}{fl:Bool}{ds:List D}{hA :List (List D)}{x0:Operand}{xr:List Operand}
 (xF:c.args.toList=x0::xr) (hf:find st.heap s=some (.row e sz rows fl)) (kF:cA ir rest=some ds) (kl:FnR cx f eB e sz rows fl ds hA) {v:AV} (hv:v=RN eB s) {E:Env} {a:Act} {w:World} {Q:Exit->Act->World->Prop} (hd:∀e,o.dst=some e->e<E.nt)
 {σ:Nat->Value} (hs:bN cx E st σ a w) (ye:a.eval x0=σ s) (hlen:rest.length=xr.length) (l2:∀(j:Nat) cc,rest[j]? =some cc-> ∃x,xr[j]? =some x/\aG w E.O (live st.heap) σ cc (a.eval x)) :
 o.wp cx.P a w (λa' w' =>Sim cx E ⟨bF (RM eB s st.aV) o.dst v,(s,.row e sz hA)::RL eB s st.heap⟩ a' w') Q:=by
 obtain⟨k1,k2⟩:=cD kF;have hl:live st.heap s:=aH.2 ⟨_,hf⟩;obtain⟨xs,o1,o2,o3,o4,o5⟩:=hs.holds.blk s _ hf;have kE:c.args.map a.eval= #[σ s]++(xr.map a.eval).toArray:=by
  rw[<- Array.toList_inj];simp[xF,ye]
 obtain⟨⟨fn,xu,xv,kI⟩,hY⟩:=kl;have kp :¬fn.name= "runtime.NumGoroutine" :=by simpa using xv
 have kq :¬fn.body=none:=by intro e;rw[e]at kI;cases kI
 have hC:(execOp a.eval o).run cx.P w= .ok (.enter f (#[σ s]++(xr.map a.eval).toArray)) w:=by
  have:a.eval (.func f)= .func (.func f) #[] #[]:=rfl;rw[<- kE];simp[execOp,ho,resolve,hc,this,Deferred.ofValue,invoke,callFunc,xu,kp,kq]
 have hI:=hY (Own E.O (live st.heap) σ) w (σ s) (xr.map a.eval).toArray xs (λb hb=>hs.pX b hb) hs.nJ (λg cells kJ=>hs.qo kJ) (λg hg=> .inr ⟨s,hl,hg⟩) o1 o3.2 o3.1 o4 o5
  (by simp;omega)
  (λj d hj=>by
   obtain⟨cc,kd,yp⟩:=k2 j d hj;obtain⟨x,ax,hr⟩:=l2 j cc kd;have:(xr.map a.eval).toArray.getD j Go.undef=a.eval x:=by simp[ax]
   rw[this];exact jr yp hr)
 simp only[Oper.wp,hC,Oper.upon];refine hI.mono λen w' =>?_
 rintro⟨v',xJ,yR,q1,q2,q3,q4,q5,q6,q7,q8,q9⟩;obtain⟨u,hu,zE⟩:∃u,en= .returned u/\ ∀σ' :Nat->Value,σ' s=v' -> ∀w',aG w' E.O (live st.heap) σ' v u:=by
  cases eB with
  |true=>exact⟨v',yR,λσ' e1 w' =>by have hv:v= .own s:=hv;rw[hv];have:=aG.own (w:=w') (O:=E.O) (σ:=σ') s hl;rw[e1]at this;exact this⟩
  |false=>exact⟨_,yR.1,λσ' e1 w' =>by have hv:v= .tuple []:=hv;rw[hv];exact .tuple [] #[] rfl λj c hj=>by simp at hj⟩
 subst hu;dsimp only;have hblk:∀σ' :Nat->Value,σ' s=v' ->(∀x,x≠s->σ' x=σ x)->cZ w' E.F E.O (live st.heap) σ' s (.row e sz hA):=λσ' e1 e2=>by
  refine⟨xJ,by rw[e1];exact q7,λb hb=>?_,⟨o3.1,λe=>by cases e⟩,q8,λi r j d hi hj=>?_⟩
  .rw[e1]at hb;rcases q6 b hb with hb|hb
   .exact o2 b hb
   .exact hs.new b (Nat.le_trans hs.frame.size hb)
  .obtain⟨u,hu,hd⟩:=q9 i r j d hi hj;refine⟨u,hu,hd.mono (bw.less λb hb=>?_)⟩;rcases hb with hb|⟨y,hy,ey⟩
   .refine .inl ⟨.inl hb,λe=>?_⟩;exact hs.apart b hb ((hs.holds.home hl e).1)
   .by_cases yf:y=s
    .subst yf;rw[e1]at ey;exact .inr ey
    .rw[e2 y yf]at ey;exact .inl ⟨.inr ⟨y,hy,ey⟩,λe=>yf (hs.holds.inj y s b hy hl ey e)⟩
 cases eB with
 |true=>exact hs.RZ (τ:=v') hd hl (λaa e=>by rcases o1.2 with ⟨e',_⟩|⟨_,_,_,e',_⟩ <;> (rw[e']at e;cases e)) q1 q2 q3 q4 q5 q6 (λσ' e1 e2 hN=>hblk σ' e1 e2) (λσ' e1=>zE σ' e1 w')
 |false =>
  have zK :v' =σ s:=yR.2;exact⟨σ,hs.Ha hd hl q1 q2 q3 q4 q5 (λ_=>hblk σ zK.symm λ_ _=>rfl) (zE σ zK.symm w')⟩
theorem Uj{cx:Cx}{st0:St}{o:Oper}{c:Call}{f:FuncId}{eB:Bool}{k:AV->St->Prop}(ho:o.op= .call c)(hc:c.callee= .value (.func f))(h:QA cx st0 o.dst eB f c.args.toList c.argTypes.toList k) :
 ∃v st1,jh cx o st0 ⟨bF st1.aV o.dst v,st1.heap⟩/\k v st1:=by
 unfold QA at h;dsimp only at h;generalize ky:st0.bP (tr ((cz cx st0 c.args.toList c.argTypes.toList).drop 1))=st at h;split at h
 .rename_i s rest kn;split at h
  .rename_i e sz rows fl ds hf kF;obtain⟨hA,kl,hk⟩:=h;have hW:∀(v:AV),v=RN eB s-> ∀(E:Env) a w (Q:Exit->Act->World->Prop),(∀e,o.dst=some e->e<E.nt)->Sim cx E st0 a w->o.wp cx.P a w (λa' w' =>Sim cx E ⟨bF (RM eB s st.aV) o.dst v,(s,.row e sz hA)::RL eB s st.heap⟩ a' w') Q:=by
    intro v hv E a w Q hd zg;obtain⟨σ,hs⟩:Sim cx E st a w:=by rw[<- ky];exact zg.bP _
    obtain⟨l1,l2⟩:=iB (St.le.refl st) hs c.args.toList c.argTypes.toList;rw[kn]at l1 l2;obtain⟨x0,xE,xB⟩:=l2 0 _ rfl;obtain⟨xr,xF⟩:∃xr,c.args.toList=x0::xr:=by
     cases hcl:c.args.toList with
     |nil=>rw[hcl]at xE;cases xE
     |cons y ys=>rw[hcl]at xE;cases xE;exact⟨ys,rfl⟩
    have ye:a.eval x0=σ s:=by generalize a.eval x0=u at xB;cases xB;rfl
    refine Jy ho hc xF hf kF kl hv hd hs ye ?_ λj cc kd=>?_
    .rw[xF]at l1;simp at l1;omega
    .obtain⟨x,hx,hr⟩:=l2 (j+1) cc (by simpa using kd);rw[xF]at hx;exact⟨x,by simpa using hx,hr⟩
   cases eB with
   |true=>exact⟨.own s,⟨il s st.aV,(s,.row e sz hA)::eL s st.heap⟩,hW _ rfl,hk⟩
   |false=>exact⟨.tuple [],⟨st.aV,(s,.row e sz hA)::st.heap⟩,hW _ rfl,hk⟩
  .exact h.elim
 .rename_i z rest kn;split at h
  .rename_i d t aL yk aK;split at h
   .rename_i e ei ds xg zZ kF;split at h
    .rename_i b1 b2;obtain⟨hA,kl,hk⟩:=h;refine⟨.own d,_,λE a w Q hd zg=>?_,hk⟩;obtain⟨σ0,yA⟩:Sim cx E st a w:=by rw[<- ky];exact zg.bP _
     obtain⟨l1,l2⟩:=iB (St.le.refl st) yA c.args.toList c.argTypes.toList;rw[kn]at l1 l2;obtain⟨x0,xE,xB⟩:=l2 0 _ rfl;obtain⟨xr,xF⟩:∃xr,c.args.toList=x0::xr:=by
      cases hcl:c.args.toList with
      |nil=>rw[hcl]at xE;cases xE
      |cons y ys=>rw[hcl]at xE;cases xE;exact⟨ys,rfl⟩
     obtain⟨σ,hs,hσ⟩:=Sim.born d e ei.size zZ (bB b1) (Nat.lt_of_succ_le (bB b2)) ⟨σ0,yA⟩;have ye:a.eval x0=σ d:=by rw[hσ];generalize a.eval x0=u at xB;cases xB;rfl
     have yx:cz cx ⟨st.aV,(d,.row e ei.size [])::st.heap⟩ c.args.toList c.argTypes.toList=AV.nil z::rest:=by rw[<- kn];exact tM _ _
     obtain⟨m1,m2⟩:=iB (St.le.refl _) hs c.args.toList c.argTypes.toList;rw[yx]at m1 m2;refine Jy (st:=⟨st.aV,(d,.row e ei.size [])::st.heap⟩) (eB:=true) ho hc xF (by exact bk ..) kF kl rfl hd hs ye ?_ λj cc kd=>?_
     .rw[xF]at m1;simp at m1;omega
     .obtain⟨x,hx,hr⟩:=m2 (j+1) cc (by simpa using kd);rw[xF]at hx;exact⟨x,by simpa using hx,hr⟩
    .exact h.elim
   .exact h.elim
  .exact h.elim
 .exact h.elim
def zJ(cx:Cx)(st:St)(f:AV)(args:List AV)(k:AV->St->Prop):Prop :=
 match callee f with
 |some (g,a,b)=>(match a++args++b with
  | .ptr s 0::rest=>(match find st.heap s,cA ir rest with
   |some (.box cs),some ds=>(match cA eI cs with
    |some cells=> ∃v kb,FnB cx g cells ds v kb /\k v ⟨st.aV,(s,.box (kb.map .d))::st.heap⟩
    |none=>False)
   |_,_=>False)
  |_=>False)
 |none=>False
theorem ED{cx:Cx}{st:St}{o:Oper}{c:Call}{f:Operand}{k:AV->St->Prop}(ho:o.op= .call c)(hc:c.callee= .value f)(h:zJ cx st (st.ev cx f) (cz cx st c.args.toList c.argTypes.toList) k) :
 ∃v st1,jh cx o st ⟨bF st1.aV o.dst v,st1.heap⟩/\k v st1:=by
 unfold zJ at h;split at h
 .rename_i g xs ys hg;split at h
  .rename_i s rest kn;split at h
   .rename_i cs ds hf kF;split at h
    .rename_i cells hX;obtain⟨v,kb,kl,hk⟩:=h;refine⟨v,_,λE a w Q hd ⟨σ,hs⟩=>?_,hk⟩;obtain⟨us,vs,hu,s1,s2,r1,r2⟩:=nD hg (hs.ev (St.le.refl st) f);obtain⟨l1,l2⟩:=iB (St.le.refl st) hs c.args.toList c.argTypes.toList;obtain⟨⟨fn,xu,xv,kI⟩,hY⟩:=kl;have kp :¬fn.name= "runtime.NumGoroutine" :=by simpa using xv
     have kq :¬fn.body=none:=by intro e;rw[e]at kI;cases kI
     have hC:(execOp a.eval o).run cx.P w= .ok (.enter g (us++c.args.map a.eval++vs)) w:=by
      simp[execOp,ho,resolve,hc,hu,Deferred.ofValue,invoke,callFunc,xu,kp,kq]
     have hW:=nX (R:=aG w E.O (live st.heap) σ) (A:=xs) (B:=cz cx st c.args.toList c.argTypes.toList) (C:=ys) (ys:=c.args.map a.eval) s1 (by simp[l1]) r1 (λj cc hj=>by
      obtain⟨x,hx,hr⟩:=l2 j cc hj;have:(c.args.map a.eval).getD j Go.undef=a.eval x:=by rw[bx]at hx;simp[hx]
      rw[this];exact hr) r2
     have hV:(us++c.args.map a.eval++vs).size=(AV.ptr s 0::rest).length:=by rw[<- kn];simp[s1,s2,l1]
     rw[kn]at hW;generalize us++c.args.map a.eval++vs=hE at hC hW hV;obtain⟨B,cur,t,e1,e2,e3,e4,e5⟩:=hs.holds.blk s _ hf;have hl:live st.heap s:=aH.2 ⟨_,hf⟩;have h0:hE.getD 0 Go.undef= .pointer (some ⟨B,0,none⟩):=by
      have:=hW 0 _ rfl;generalize hE.getD 0 Go.undef=u at this;cases this with|ptr _ _ b hL hσ=>rw[hσ]at e1;cases e1;rfl
     have kE:hE= #[.pointer (some ⟨B,0,none⟩)]++hE.extract 1 hE.size:=by
      apply Array.ext
      .simp at hV ⊢;omega
      .intro i h1 h2;rcases i with _|i
       .have:hE[0]=hE.getD 0 Go.undef:=by simp[h1]
        rw[this,h0];simp
       .simp[Array.getElem_append]
        congr 1;omega
     obtain⟨k1,k2⟩:=cD kF;obtain⟨q1,q2⟩:=cD hX;have hI:=hY (Own E.O (live st.heap) σ) w B cur t (hE.extract 1 hE.size) (λb hb=>hs.pX b hb) hs.nJ (λg cells kJ=>hs.qo kJ) (.inr ⟨s,hl,by rw[e1];rfl⟩) e3 (by rw[e4,q1])
      (λj d hj=>by
       obtain⟨cc,kd,kr⟩:=q2 j d hj;refine⟨?_,iC kr (e5 j cc kd).2⟩;have h1:=(e5 j cc kd).1;cases cc <;> simp[eI]at kr
       .subst kr;rcases h1 with h1|h1
        .exact h1
        .cases h1
       .subst kr;rfl)
      (by simp at hV ⊢;omega)
      (λj d hj=>by
       obtain⟨cc,kd,yp⟩:=k2 j d hj;have hr:=hW (j+1) cc (by simpa using kd);have hD:j+1<hE.size:=by rw[hV];have:=(aB.1 kd).1;simp;omega
       have:(hE.extract 1 hE.size).getD j Go.undef=hE.getD (j+1) Go.undef:=by
        simp[bM,Array.getElem?_extract,hD,show j<hE.size-1 by omega,Nat.add_comm]
       rw[this];exact jr yp hr)
     rw[<- kE]at hI;simp only[Oper.wp,hC,Oper.upon];refine hI.mono λen w' =>?_
     rintro⟨u,xp,t',rfl,p1,p2,p3,p4,p5,p6,p7,p8,p9⟩;dsimp only;have xL:bw w' w' (Own (Own E.O (live st.heap) σ) (λ_=>False) (λ_=>Value.nilFunc)) (Own E.O (live st.heap) σ):=bw.less λb hb=> .inl hb
     refine⟨σ,hs.OL hd hl (by rw[e1];rfl) p1 p2 p3 p4 p5 (λhN=>?_) (p9.mono xL λs h=>h.elim)⟩;refine⟨B,xp,t',e1,e2,p6,by rw[p7,aA],λj c hj=>?_⟩;rw[bc]at hj;cases xZ :kb[j]? with
     |none=>rw[xZ]at hj;cases hj
     |some d=>rw[xZ]at hj;cases hj;exact⟨.inl (p8 j d xZ).1,.d _ _ (p8 j d xZ).2⟩
    .exact h.elim
   .exact h.elim
  .exact h.elim
 .exact h.elim
def eJ:List Nat->Nat->Bool
 |[],_=>false
 |x::t,i=>match Nat.beq x i with|true=>true|false=>eJ t i
theorem jG:∀{l:List Nat} {i:Nat},eJ l i=true->i∈l
 |[],_,h=>by cases h
 |x::t,i,h=>by
  simp only[eJ]at h;split at h
  .rename_i e;rw[bd e];exact List.mem_cons_self ..
  .exact bC _ (jG h)
def RQ:Option Blk->Bool
 |some (.box _)=>true
 |_=>false
def cS(h:List (Nat×Blk)):List Nat:=(h.map (·.1)).filter λs=>Nat.ble 100000 s&&RQ (find h s)
theorem jQ{h:List (Nat×Blk)}{s:Nat}(hs:s∈cS h):100000<=s/\ ∃cells,find h s=some (.box cells):=by
 unfold cS at hs;rw[List.mem_filter,aU]at hs;refine⟨bB hs.2.1,?_⟩;have:=hs.2.2;unfold RQ at this;split at this
 .rename_i cells e;exact⟨cells,e⟩
 .cases this
def dM(h:List (Nat×Blk))(σ:Nat->Value)(b:Nat):Prop:= ∃s,live h s/\home (σ s)=some b
def FnH(cx:Cx)(f:FuncId)(args:List AV)(h:List (Nat×Blk))(x:AV)(h' :List (Nat×Blk)):Prop :=
 gq cx.P f/\ ∀(O:Nat->Prop) (w:World) (σ:Nat->Value) (vs:Array Value),(∀b,O b->b<w.heap.size)->jC cx w->(∀g cells,cx.gl g=some cells-> ¬O g/\ ¬dM h σ g)->(∀b,O b-> ¬dM h σ b) ->
  Holds w (dM h σ) O h σ->vs.size=args.length->(∀(j:Nat) c,args[j]? =some c->aG w O (live h) σ c (vs.getD j Go.undef)) ->
  Calls cx.P f vs w λen w' => ∃u σ',en= .returned u/\sO (λb=>dM h σ b\/w.heap.size<=b) w w' /\Holds w' (λb=>dM h σ b\/w.heap.size<=b) O h' σ' /\
   (∀s∈cS h,live h' s->σ' s=σ s)/\aG w' O (live h') σ' x u
theorem cZ.inF{w:World}{F F' O L:Nat->Prop}{σ:Nat->Value}{s:Nat}{b:Blk}(h:cZ w F O L σ s b)(hF:∀g,NQ.home (σ s)=some g->F' g):cZ w F' O L σ s b:=by
 cases b with
 |box cells =>
  obtain⟨b,cur,t,h1,h2,h3⟩:=h;exact⟨b,cur,t,h1,hF b (by rw[h1];rfl),h3⟩
 |row e size rows fl =>
  obtain⟨xs,h1,h2,h3⟩:=h;exact⟨xs,h1,hF,h3⟩
 |smap m =>
  obtain⟨b,es,clock,h1,h2,h3⟩:=h;exact⟨b,es,clock,h1,hF b (by rw[h1];rfl),h3⟩
 |cY m =>
  obtain⟨b,es,clock,h1,h2,h3⟩:=h;exact⟨b,es,clock,h1,hF b (by rw[h1];rfl),h3⟩
 |eF e size rows =>
  obtain⟨b,cur,t,h1,h2,h3⟩:=h;exact⟨b,cur,t,h1,hF b (by rw[h1];rfl),h3⟩
 |tail e size rows=>exact⟨h.1,hF⟩
 |iter left cur=>exact⟨h.1,hF⟩
 |dJ m =>
  obtain⟨b,es,clock,h1,h2,h3⟩:=h;exact⟨b,es,clock,h1,hF b (by rw[h1];rfl),h3⟩
theorem fh{α:Type}:∀{l:List (Nat×α)} {i:Nat} {x:α},find l i=some x->(i,x)∈l
 |[],_,_,h=>by cases h
 |(k,y)::t,i,x,h=>by
  simp only[find]at h;split at h
  .rename_i e;cases h;rw[bd e];exact List.mem_cons_self ..
  .exact bC _ (fh h)
section
variable {w w' :World} {O O' L L' :Nat->Prop} {σ σ' :Nat->Value} {fx:List Nat}
end
def cw(fr:List Nat)(h:List (Nat×Blk)):List (Nat×Blk):=h.filter λp=>eJ fr p.1
def dP(fr:List Nat)(h:List (Nat×Blk)):List (Nat×Blk):=h.filter λp=> !eJ fr p.1
theorem np(fr:List Nat)(s:Nat):∀h:List (Nat×Blk),find (cw fr h) s=if eJ fr s=true then find h s else none
 |[]=>by unfold cw;simp[find]
 |(k,x)::t=>by
  have ih:=np fr s t;unfold cw at ih ⊢;by_cases hk:eJ fr k=true
  .rw[List.filter_cons_of_pos (by simpa using hk)];by_cases e:k=s
   .subst e;rw[bk,if_pos hk,bk]
   .rw[bl _ _ e,ih,bl _ _ e]
  .rw[List.filter_cons_of_neg (by simpa using hk),ih];by_cases e:k=s
   .subst e;rw[if_neg hk,if_neg hk]
   .rw[bl _ _ e]
theorem pb(fr:List Nat)(s:Nat):∀h:List (Nat×Blk),find (dP fr h) s=if eJ fr s=true then none else find h s
 |[]=>by unfold dP;simp[find]
 |(k,x)::t=>by
  have ih:=pb fr s t;unfold dP at ih ⊢;by_cases hk:eJ fr k=true
  .rw[List.filter_cons_of_neg (by simp[hk]),ih];by_cases e:k=s
   .subst e;rw[if_pos hk,if_pos hk]
   .rw[bl _ _ e]
  .rw[List.filter_cons_of_pos (by simpa using hk)];by_cases e:k=s
   .subst e;rw[bk,if_neg hk,bk]
   .rw[bl _ _ e,ih,bl _ _ e]
theorem qC{α:Type}(s:Nat):∀(a b:List (Nat×α)),find (a++b) s=match find a s with|some x=>some x|none=>find b s
 |[],b=>rfl
 |(k,x)::t,b=>by
  by_cases e:k=s
  .subst e;rw[List.cons_append,bk,bk]
  .rw[List.cons_append,bl _ _ e,bl _ _ e];exact qC s t b
def sQ(nm:List Nat):AV->Bool
 | .d _=>true
 | .nil _=>true
 | .undef=>true
 | .ptr s _=>eJ nm s
 | .own s=>eJ nm s
 | .omap s=>eJ nm s
 |_=>false
def gQ(nm:List Nat):AV->Bool
 | .fn _ a b=>a.all (sQ nm)&&b.all (sQ nm)
 | .agg cs=>cs.all (sQ nm)
 |v=>sQ nm v
def BD(nm:List Nat):Blk->Bool
 | .box cells=>cells.all (gQ nm)
 | .row .. =>true
 | .smap _=>true
 | .cY _=>true
 | .dJ m=>m.all λp=>gQ nm p.2
 | .eF _ _ rows=>rows.all λr=>r.all (gQ nm)
 |_=>false
section
variable {w:World} {O O' L L' :Nat->Prop} {σ:Nat->Value} {nm:List Nat}
theorem oN{v:AV}{u:Value}(h:aG w O L σ v u)(hv:sQ nm v=true)(hL:∀s∈nm,L' s)(k:bw w w (Own O L σ) (Own O' L' σ)):aG w O' L' σ v u:=by
 cases h with
 |undef=>exact .undef _
 |d x v h=>exact .d _ _ (h.mono k)
 |nil=>exact .nil _
 |ptr s off b _ h=>exact .ptr s off b (hL s (jG hv)) h
 |own s _=>exact .own s (hL s (jG hv))
 |omap s _=>exact .omap s (hL s (jG hv))
 |_=>cases hv
theorem nF{v:AV}{u:Value}(h:aG w O L σ v u)(hv:gQ nm v=true)(hL:∀s∈nm,L' s)(k:bw w w (Own O L σ) (Own O' L' σ)):aG w O' L' σ v u:=by
 cases v with
 |fn f a b =>
  cases h with|fn _ _ _ xs vs hx hl h1 h2 =>
   simp only[gQ,aU,aI]at hv;exact .fn _ _ _ _ _ hx hl (λj c hj=>oN (h1 j c hj) (hv.1 c (aD hj)) hL k) (λj c hj=>oN (h2 j c hj) (hv.2 c (aD hj)) hL k)
 |agg cs =>
  cases h with|agg _ vs hl hh =>
   simp only[gQ,aI]at hv;exact .agg _ _ hl λj c hj=>oN (hh j c hj) (hv c (aD hj)) hL k
 |_=>exact oN h hv hL k
theorem Cu{F:Nat->Prop}{s:Nat}{b:Blk}(h:cZ w F O L σ s b)(hb:BD nm b=true)(hL:∀s∈nm,L' s)(k:bw w w (Own O L σ) (Own O' L' σ)):cZ w F O' L' σ s b:=by
 cases b with
 |box cells =>
  obtain⟨b,cur,t,h1,h2,h3,h4,h5⟩:=h;simp only[BD,aI]at hb;exact⟨b,cur,t,h1,h2,h3,h4,λj c hj=>⟨(h5 j c hj).1,nF (h5 j c hj).2 (hb c (aD hj)) hL k⟩⟩
 |row e size rows fl =>
  obtain⟨xs,h1,h2,h3,h4,h5⟩:=h;exact⟨xs,h1,h2,h3,h4,λi r j d hi hj=>by obtain⟨u,hu,hr⟩:=h5 i r j d hi hj;exact⟨u,hu,hr.mono k⟩⟩
 |smap m =>
  obtain⟨b,es,clock,h1,h2,h3,h4,h5⟩:=h;exact⟨b,es,clock,h1,h2,h3,h4,λj kk v hj=>by obtain⟨e,he,hk,hv⟩:=h5 j kk v hj;exact⟨e,he,hk.mono k,hv.mono k⟩⟩
 |cY m =>
  obtain⟨b,es,clock,h1,h2,h3,h4⟩:=h;exact⟨b,es,clock,h1,h2,h3,h4.mono λ_ _ h=>h.mono k⟩
 |eF e size rows =>
  obtain⟨b,cur,t,h1,h2,h3,h4,h5⟩:=h;simp only[BD,aI]at hb;exact⟨b,cur,t,h1,h2,h3,h4,λi r j c hi hj=>⟨(h5 i r j c hi hj).1,nF (h5 i r j c hi hj).2 (hb r (aD hi) c (aD hj)) hL k⟩⟩
 |tail _ _ _=>cases hb
 |iter _ _=>cases hb
 |dJ m =>
  obtain⟨b,es,clock,h1,h2,h3,h4,h5⟩:=h;simp only[BD,aI]at hb;exact⟨b,es,clock,h1,h2,h3,h4,λj kk v hj=>by obtain⟨e,he,hk,hv⟩:=h5 j kk v hj;exact⟨e,he,hk,nF hv (hb _ (aD hj)) hL k⟩⟩
end
section
variable {w w' :World} {O O' L L' :Nat->Prop} {σ σ' :Nat->Value} {nm:List Nat}
theorem nE{v:AV}{u:Value}(h:aG w O L σ v u)(hv:sQ nm v=true)(k:bw w w' (Own O L σ) (Own O' L' σ'))(kx:∀s∈nm,L' s/\σ' s=σ s):aG w' O' L' σ' v u:=by
 cases h with
 |undef=>exact .undef _
 |d x v h=>exact .d _ _ (h.mono k)
 |nil=>exact .nil _
 |ptr s off b _ h =>
  have:=kx s (jG hv);exact .ptr s off b this.1 (this.2.trans h)
 |own s _ =>
  have:=kx s (jG hv);rw[<- this.2];exact .own s this.1
 |omap s _ =>
  have:=kx s (jG hv);rw[<- this.2];exact .omap s this.1
 |_=>cases hv
theorem kV{v:AV}{u:Value}(h:aG w O L σ v u)(hv:gQ nm v=true)(k:bw w w' (Own O L σ) (Own O' L' σ'))(kx:∀s∈nm,L' s/\σ' s=σ s):aG w' O' L' σ' v u:=by
 cases v with
 |fn f a b =>
  cases h with|fn _ _ _ xs vs hx hl h1 h2 =>
   simp only[gQ,aU,aI]at hv;exact .fn _ _ _ _ _ hx hl (λj c hj=>nE (h1 j c hj) (hv.1 c (aD hj)) k kx) (λj c hj=>nE (h2 j c hj) (hv.2 c (aD hj)) k kx)
 |agg cs =>
  cases h with|agg _ vs hl hh =>
   simp only[gQ,aI]at hv;exact .agg _ _ hl λj c hj=>nE (hh j c hj) (hv c (aD hj)) k kx
 |_=>exact nE h hv k kx
def vm(nm:List Nat):Blk->Bool
 | .box cells=>cells.all (gQ nm)
 | .eF _ _ rows=>rows.all λr=>r.all (gQ nm)
 | .dJ m=>m.all λp=>gQ nm p.2
 |_=>true
theorem tO{F:Nat->Prop}{s:Nat}{b:Blk}(h:cZ w F O L σ s b)(hb:vm nm b=true)(hs:s∈nm)(kx:∀s∈nm,L' s/\σ' s=σ s)(hg:∀g,NQ.home (σ s)=some g->w'.heap[g]? =w.heap[g]?)(k:bw w w' (Own O L σ) (Own O' L' σ')):cZ w' F O' L' σ' s b:=by
 have e:=(kx s hs).2;cases b with
 |box cells =>
  obtain⟨b,cur,t,h1,h2,h3,h4,h5⟩:=h;simp only[vm,aI]at hb;exact⟨b,cur,t,e.trans h1,h2,(hg b (by rw[h1];rfl)).trans h3,h4,λj c hj=>⟨(h5 j c hj).1,kV (h5 j c hj).2 (hb c (aD hj)) k kx⟩⟩
 |row e' size rows fl =>
  obtain⟨xs,h1,h2,h3,h4,h5⟩:=h;refine⟨xs,?_,?_,⟨h3.1,λq=>by rw[e];exact h3.2 q⟩,h4,λi r j d hi hj=>?_⟩
  .rw[e];refine⟨h1.1,?_⟩;rcases h1.2 with h|⟨g,cap,cur,e1,e2,e3,e4⟩
   .exact .inl h
   .exact .inr ⟨g,cap,cur,e1,e2,(hg g (by rw[e1];rfl)).trans e3,e4⟩
  .rw[e];exact h2
  .obtain⟨u,hu,hr⟩:=h5 i r j d hi hj;exact⟨u,hu,hr.mono k⟩
 |smap m =>
  obtain⟨b,es,clock,h1,h2,h3,h4,h5⟩:=h;exact⟨b,es,clock,e.trans h1,h2,(hg b (by rw[h1];rfl)).trans h3,h4,λj kk v hj=>by obtain⟨e,he,hk,hv⟩:=h5 j kk v hj;exact⟨e,he,hk.mono k,hv.mono k⟩⟩
 |cY m =>
  obtain⟨b,es,clock,h1,h2,h3,h4⟩:=h;exact⟨b,es,clock,e.trans h1,h2,(hg b (by rw[h1];rfl)).trans h3,h4.mono λ_ _ h=>h.mono k⟩
 |dJ m =>
  obtain⟨b,es,clock,h1,h2,h3,h4,h5⟩:=h;simp only[vm,aI]at hb;exact⟨b,es,clock,e.trans h1,h2,(hg b (by rw[h1];rfl)).trans h3,h4,λj kk v hj=>by obtain⟨e,he,hk,hv⟩:=h5 j kk v hj;exact⟨e,he,hk,kV hv (hb _ (aD hj)) k kx⟩⟩
 |eF e' size rows =>
  obtain⟨b,cur,t,h1,h2,h3,h4,h5⟩:=h;simp only[vm,aI]at hb;exact⟨b,cur,t,e.trans h1,h2,(hg b (by rw[h1];rfl)).trans h3,h4,λi r j c hi hj=>⟨(h5 i r j c hi hj).1,kV (h5 i r j c hi hj).2 (hb r (aD hi) c (aD hj)) k kx⟩⟩
 |tail e' size rows =>
  show iJ w' _ e' size rows (σ' s)/\_
  rw[e];exact⟨h.1.mono hg λ_ _ hr=>hr.mono k,h.2⟩
 |iter left cur =>
  show oV w' _ left cur (σ' s)/\_
  rw[e];exact⟨h.1.mono hg k,h.2⟩
end
def rI(fx:List Nat)(sl:List (Nat×AV)):List (Nat×AV):=sl.map λp=>(p.1,if gQ fx p.2=true then p.2 else .undef)
theorem pS(fx:List Nat)(t:Nat):∀sl:List (Nat×AV),find (rI fx sl) t=(find sl t).map λv=>if gQ fx v=true then v else .undef
 |[]=>rfl
 |p::r=>by
  show find ((p.1,if gQ fx p.2=true then p.2 else .undef)::rI fx r) t=_
  by_cases h:p.1=t
  .subst h;rw[bk,show p::r=(p.1,p.2)::r from rfl,bk];rfl
  .rw[bl _ _ h,show p::r=(p.1,p.2)::r from rfl,bl _ _ h];exact pS fx t r
def vU(cx:Cx)(st:St)(f:AV)(args:List AV)(k:AV->St->Prop):Prop :=
 match callee f with
 | some (g, a, b) => ∃ (fr : List Nat) (x : AV) (h' : List (Nat × Blk)), FnH cx g (a ++ args ++ b) (dP fr st.heap) x h' /\
     (((cS (dP fr st.heap)).all (λs=>(find h' s).isSome)=true/\(h'.map (·.1)).all (λs=>(Nat.blt s 100000||eJ (cS (dP fr st.heap)) s)&& !eJ fr s)=true) /\
      ((a++args++b).all (gQ ((dP fr st.heap).map (·.1)))=true/\(dP fr st.heap).all (λp=>BD ((dP fr st.heap).map (·.1)) p.2)=true/\(cw fr st.heap).all (λp=>vm ((cw fr st.heap).map (·.1)) p.2)=true))/\k x ⟨rI (cS (dP fr st.heap)++(cw fr st.heap).map (·.1)) st.aV,cw fr st.heap++h'⟩
 |none=>False
theorem yU{cx:Cx}{st:St}{o:Oper}{c:Call}{f:Operand}{k:AV->St->Prop}(ho:o.op= .call c)(hc:c.callee= .value f)(h:vU cx st (st.ev cx f) (cz cx st c.args.toList c.argTypes.toList) k) :
 ∃v st1,jh cx o st ⟨bF st1.aV o.dst v,st1.heap⟩/\k v st1:=by
 unfold vU at h;split at h
 .rename_i g xs ys hg;obtain⟨fr,x,h',kl,⟨⟨c1,c2⟩,c4,c5,c6⟩,hk⟩:=h;refine⟨x,⟨rI (cS (dP fr st.heap)++(cw fr st.heap).map (·.1)) st.aV,cw fr st.heap++h'⟩,λE a w Q hd ⟨σ,hs⟩=>?_,hk⟩;obtain⟨us,vs,hu,s1,s2,r1,r2⟩:=nD hg (hs.ev (St.le.refl st) f);obtain⟨l1,l2⟩:=iB (St.le.refl st) hs c.args.toList c.argTypes.toList;obtain⟨⟨fn,xu,xv,kI⟩,hY⟩:=kl;have kp :¬fn.name= "runtime.NumGoroutine" :=by simpa using xv
  have kq :¬fn.body=none:=by intro e;rw[e]at kI;cases kI
  have hC:(execOp a.eval o).run cx.P w= .ok (.enter g (us++c.args.map a.eval++vs)) w:=by
   simp[execOp,ho,resolve,hc,hu,Deferred.ofValue,invoke,callFunc,xu,kp,kq]
  have hW:=nX (R:=aG w E.O (live st.heap) σ) (A:=xs) (B:=cz cx st c.args.toList c.argTypes.toList) (C:=ys) (ys:=c.args.map a.eval) s1 (by simp[l1]) r1 (λj cc hj=>by
   obtain⟨x,hx,hr⟩:=l2 j cc hj;have:(c.args.map a.eval).getD j Go.undef=a.eval x:=by rw[bx]at hx;simp[hx]
   rw[this];exact hr) r2
  have hV:(us++c.args.map a.eval++vs).size=(xs++cz cx st c.args.toList c.argTypes.toList++ys).length:=by simp[s1,s2,l1]
  have xh:∀s,live (dP fr st.heap) s ↔ live st.heap s/\eJ fr s=false:=λs=>by
   unfold live;rw[pb];cases eJ fr s <;> simp
  have xl:∀s,live (cw fr st.heap) s ↔ live st.heap s/\eJ fr s=true:=λs=>by
   unfold live;rw[np];cases eJ fr s <;> simp
  obtain⟨O',xX⟩:∃O' :Nat->Prop,O' =λb=>E.O b\/dM (cw fr st.heap) σ b:=⟨_,rfl⟩
  have xi:∀b,dM (cw fr st.heap) σ b->E.F b/\b<w.heap.size:=λb ⟨s,hl,e⟩=>hs.holds.home ((xl s).1 hl).1 e
  have xR:∀b,dM (dP fr st.heap) σ b->E.F b/\b<w.heap.size:=λb ⟨s,hl,e⟩=>hs.holds.home ((xh s).1 hl).1 e
  have kY:∀b,dM (cw fr st.heap) σ b-> ¬dM (dP fr st.heap) σ b:=λb ⟨s,hl,e⟩ ⟨s',hS,e'⟩=>by
   have:=hs.holds.inj s s' b ((xl s).1 hl).1 ((xh s').1 hS).1 e e';subst this;have h1:=((xl s).1 hl).2;rw[((xh s).1 hS).2]at h1;cases h1
  have kX:∀b,Own O' (live (dP fr st.heap)) σ b ↔ Own E.O (live st.heap) σ b:=λb=>by
   rw[xX];constructor
   .rintro((hb|⟨s,hl,e⟩)|⟨s,hl,e⟩)
    .exact .inl hb
    .exact .inr ⟨s,((xl s).1 hl).1,e⟩
    .exact .inr ⟨s,((xh s).1 hl).1,e⟩
   .rintro(hb|⟨s,hl,e⟩)
    .exact .inl (.inl hb)
    .cases hf:eJ fr s with
     |true=>exact .inl (.inr ⟨s,(xl s).2 ⟨hl,hf⟩,e⟩)
     |false=>exact .inr ⟨s,(xh s).2 ⟨hl,hf⟩,e⟩
  have zB:bw w w (Own E.O (live st.heap) σ) (Own O' (live (dP fr st.heap)) σ):=bw.less λb hb=>(kX b).1 hb
  have zD:∀s∈(dP fr st.heap).map (·.1),live (dP fr st.heap) s:=λs hm=>by
   obtain⟨p,hp,rfl⟩:=List.mem_map.1 hm;have zd :=List.mem_filter.1 hp;refine(xh p.1).2 ⟨?_,by simpa using zd.2⟩;have:∀(l:List (Nat×Blk)),p∈l->live l p.1:=λl=>by
    induction l with
    |nil=>intro h;cases h
    |cons q t ih =>
     intro hm;by_cases e:q.1=p.1
     .exact aH.2 ⟨q.2,by rw[<- e];exact bk ..⟩
     .rcases List.mem_cons.1 hm with rfl|hm
      .exact absurd rfl e
      .obtain⟨b,hb⟩:=aH.1 (ih hm);exact aH.2 ⟨b,by rw[show q=(q.1,q.2)from rfl,bl _ _ e];exact hb⟩
   exact this _ zd.1
  have hI := hY O' w σ (us ++ c.args.map a.eval ++ vs) (fun b hb => by
      rw[xX]at hb;rcases hb with hb|hb
      .exact hs.pX b (.inl hb)
      .exact(xi b hb).2) hs.nJ (λg cells kJ=>by
      obtain⟨g1,g2⟩:=hs.dQ g cells kJ;refine⟨λhg=>?_,λhg=>g1 (xR g hg).1⟩;rw[xX]at hg;rcases hg with hg|hg
      .exact g2 hg
      .exact g1 (xi g hg).1)
   (λb hb hH=>by
    rw[xX]at hb;rcases hb with hb|hb
    .exact hs.apart b hb (xR b hH).1
    .exact kY b hb hH) ⟨λs b hb=>by
     have km :find st.heap s=some b:=by
      rw[pb]at hb;split at hb
      .cases hb
      .exact hb
     have hm:=aI.1 c5 _ (fh hb);exact((Cu (hs.holds.blk s b km) hm zD zB)).inF λg hg=>⟨s,aH.2 ⟨b,hb⟩,hg⟩,λs s' b hl hS =>hs.holds.inj s s' b ((xh s).1 hl).1 ((xh s').1 hS).1⟩ hV
   (λj cc hj=>nF (hW j cc hj) (aI.1 c4 cc (aD hj)) zD zB)
  simp only[Oper.wp,hC,Oper.upon];refine hI.mono λen w' =>?_
  rintro⟨u,σ',rfl,kr,yr,hZ,kQ⟩;dsimp only;have hF:∀b,(dM (dP fr st.heap) σ b\/w.heap.size<=b)->E.F b:=λb hb=>by
   rcases hb with hb|hb
   .exact(xR b hb).1
   .exact hs.new b (Nat.le_trans hs.frame.size hb)
  have al:∀s,live h' s->eJ fr s=false:=λs hl=>by
   obtain⟨b,hb⟩:=aH.1 hl;have:=aI.1 c2 s (List.mem_map.2 ⟨_,fh hb,rfl⟩);rw[aU]at this;simpa using this.2
  have xH:∀s,live (cw fr st.heap++h') s ↔ live (cw fr st.heap) s\/live h' s:=λs=>by
   unfold live;rw[qC];cases find (cw fr st.heap) s <;> simp
  obtain⟨τ,hτ⟩:∃τ:Nat->Value,τ=λs=>if eJ fr s=true then σ s else σ' s:=⟨_,rfl⟩
  have tE:∀s,live (cw fr st.heap) s->τ s=σ s:=λs hl=>by rw[hτ];exact if_pos ((xl s).1 hl).2
  have tH:∀s,live h' s->τ s=σ' s:=λs hl=>by rw[hτ];exact if_neg (by rw[al s hl];simp)
  have xK:∀b,Own E.O (live (cw fr st.heap++h')) τ b->Own O' (live h') σ' b:=λb hb=>by
   rw[xX];rcases hb with hb|⟨s,hl,e⟩
   .exact .inl (.inl hb)
   .rcases (xH s).1 hl with hl|hl
    .exact .inl (.inr ⟨s,hl,by rw[<- tE s hl];exact e⟩)
    .exact .inr ⟨s,hl,by rw[<- tH s hl];exact e⟩
  have yc:bw w' w' (Own O' (live h') σ') (Own E.O (live (cw fr st.heap++h')) τ):=bw.less xK;have hN:bw w w' (Own E.O (live st.heap) σ) (Own E.O (live (cw fr st.heap++h')) τ):=by
   refine⟨kr.size,λb hb hD=>kr.block b λhh=>?_,λb hb hD yd =>?_⟩
   .rcases hh with ⟨s,hl,e⟩|hh
    .exact hb (.inr ⟨s,((xh s).1 hl).1,e⟩)
    .omega
   .have yd :=xK b yd;rw[xX]at yd;rcases yd with (yd |⟨s,hl,e⟩)|⟨s,hl,e⟩
    .exact hb (.inl yd)
    .exact hb (.inr ⟨s,((xl s).1 hl).1,e⟩)
    .rcases (yr.home hl e).1 with ⟨s',hS,e'⟩|hh
     .exact hb (.inr ⟨s',((xh s').1 hS).1,e'⟩)
     .omega
  have kx:∀s∈cS (dP fr st.heap)++(cw fr st.heap).map (·.1),live (cw fr st.heap++h') s/\τ s=σ s:=λs hm=>by
   rcases List.mem_append.1 hm with hm|hm
   .have hl:live h' s:=aI.1 c1 s hm;exact⟨(xH s).2 (.inr hl),by rw[tH s hl];exact hZ s hm hl⟩
   .obtain⟨p,hp,rfl⟩:=List.mem_map.1 hm;have zd :=List.mem_filter.1 hp;have hl:live (cw fr st.heap) p.1:=by
     have:∀(l:List (Nat×Blk)),p∈l->live l p.1:=λl=>by
      induction l with
      |nil=>intro h;cases h
      |cons q t ih =>
       intro hm;by_cases e:q.1=p.1
       .exact aH.2 ⟨q.2,by rw[<- e];exact bk ..⟩
       .rcases List.mem_cons.1 hm with rfl|hm
        .exact absurd rfl e
        .obtain⟨b,hb⟩:=aH.1 (ih hm);exact aH.2 ⟨b,by rw[show q=(q.1,q.2)from rfl,bl _ _ e];exact hb⟩
     exact this _ hp
    exact⟨(xH _).2 (.inl hl),tE _ hl⟩
  have zR:∀s b,find (cw fr st.heap) s=some b->cZ w' E.F E.O (live (cw fr st.heap++h')) τ s b:=λs b hb=>by
   have hl:live (cw fr st.heap) s:=aH.2 ⟨b,hb⟩;have km :find st.heap s=some b:=by
    rw[np]at hb;split at hb
    .exact hb
    .cases hb
   have an:=aI.1 c6 _ (fh hb);have hold:=hs.holds.blk s b km;refine tO hold an (List.mem_map.2 ⟨_,fh hb,rfl⟩) (λx hx=>kx x (List.mem_append.2 (.inr hx))) (λg hg=>kr.block g λhh=>?_) hN;have zA:dM (cw fr st.heap) σ g:=⟨s,hl,hg⟩
   rcases hh with hh|hh
   .exact kY g zA hh
   .have:=(xi g zA).2;omega
  refine⟨τ,⟨kr.os.trans hs.frame.os,kr.tape.trans hs.frame.tape,kr.output.trans hs.frame.output,Nat.le_trans hs.frame.size kr.size,λb hb=>(kr.block b λhh=>hb (hF b hh)).trans (hs.frame.block b hb)⟩,
   hs.new,hs.apart,?_,?_,λt=>?_,⟨λs b hb=>?_,λs s' b hl hS e e' =>?_⟩,hs.fI,hs.dQ,λq0 B hB=>?_⟩
  .cases o.dst <;> exact hs.defers
  .cases o.dst <;> simp[Act.put,hs.nt]
  .show aG w' E.O (live (cw fr st.heap++h')) τ (St.get (St.put ⟨rI (cS (dP fr st.heap)++(cw fr st.heap).map (·.1)) st.aV,cw fr st.heap++h'⟩ o.dst x []) t) _
   rw[St.fX,iP (by rw[hs.nt];exact hd)];by_cases e:o.dst=some t
   .rw[if_pos e,if_pos e];exact kQ.mono yc λs hl=>⟨(xH s).2 (.inr hl),tH s hl⟩
   .rw[if_neg e,if_neg e];have hr:=hs.aV t;unfold St.get at hr ⊢;rw[pS];cases hf:find st.aV t with
    |none=>exact .undef _
    |some v =>
     rw[hf]at hr;dsimp only[Option.map_some];by_cases hv:gQ (cS (dP fr st.heap)++(cw fr st.heap).map (·.1)) v=true
     .rw[if_pos hv];exact kV hr hv hN kx
     .rw[if_neg hv];exact .undef _
  .rw[qC]at hb;cases he:find (cw fr st.heap) s with
   |some b' =>rw[he]at hb;cases hb;exact zR s _ he
   |none =>
    rw[he]at hb;have hl:live h' s:=aH.2 ⟨b,hb⟩;exact(cZ.mono yc (λs hl=>⟨(xH s).2 (.inr hl),tH s hl⟩) hl (λ_ _=>rfl) (yr.blk s b hb)).inF λg hg=>hF g (yr.home hl (by rw[<- tH s hl];exact hg)).1
  .have key:∀s s',live (cw fr st.heap) s->live h' s' ->home (τ s)=some b->home (τ s')=some b->False:=λs s' h1 h2 k1 k2=>by
    rw[tE s h1]at k1;rw[tH s' h2]at k2;have hg:dM (cw fr st.heap) σ b:=⟨s,h1,k1⟩
    rcases (yr.home h2 k2).1 with hh|hh
    .exact kY b hg hh
    .have:=(xi b hg).2;omega
   rcases (xH s).1 hl with h1|h1
   .rcases (xH s').1 hS with h2|h2
    .exact hs.holds.inj s s' b ((xl s).1 h1).1 ((xl s').1 h2).1 (by rw[<- tE s h1];exact e) (by rw[<- tE s' h2];exact e')
    .exact(key s s' h1 h2 e e').elim
   .rcases (xH s').1 hS with h2|h2
    .exact(key s' s h2 h1 e' e).elim
    .exact yr.inj s s' b h1 h2 (by rw[<- tH s h1];exact e) (by rw[<- tH s' h2];exact e')
  .obtain⟨f1,f2⟩:=hs.fix q0 B hB;refine⟨f1,λhl=>?_⟩;rcases (xH q0).1 hl with hl|hl
   .rw[tE q0 hl];exact f2 ((xl q0).1 hl).1
   .obtain⟨b,hb⟩:=aH.1 hl;have hm:=aI.1 c2 q0 (List.mem_map.2 ⟨_,fh hb,rfl⟩);rw[aU,Bool.or_eq_true]at hm;rcases hm.1 with hm|hm
    .have:=Nat.lt_of_succ_le (bB hm);omega
    .have km :=jG hm;obtain⟨_,cells,xZ⟩:=jQ km;rw[tH q0 hl,hZ q0 km hl];exact f2 ((xh q0).1 (aH.2 ⟨_,xZ⟩)).1
 .exact h.elim
section
variable {cx:Cx} {st:St} {E:Env} {σ:Nat->Value} {a:Act} {w:World}
theorem Re(hs:bN cx E st σ a w){size:Nat}(hV:1<=size){aW:List (List D)}(p1:∀r∈aW,r.length=size/\ ∀d∈r,d.one=true){B off:Nat}
 (p3:∀i r j d,aW[i]? =some r->r[j]? =some d-> ∃v,w.cell? ⟨B,off+(i*size+j),none⟩=some v/\Rep w (Own E.O (live st.heap) σ) d v) :
 ∃news:List Value,news.length=aW.length*size/\(∀j u,news[j]? =some u->w.cell? ((⟨B,off,none⟩:Addr).add j)=some u)/\(∀u∈news,u.oneCell' =true) /\
  ∀i r j d,aW[i]? =some r->r[j]? =some d-> ∃z,news[i*size+j]? =some z/\Rep w (Own E.O (live st.heap) σ) d z:=by
 let f:Nat->Value:=λq=>(w.cell? ⟨B,off+q,none⟩).getD Go.undef
 have kz:∀q,q<aW.length*size->w.cell? ⟨B,off+q,none⟩=some (f q)/\(f q).oneCell' =true:=λq hD=>by
  have h1:q / size<aW.length:=Nat.div_lt_of_lt_mul (by rw[Nat.mul_comm];exact hD);have h2:=au h1;have h3:=p1 _ (List.getElem_mem h1);have h4:q % size<(aW[q / size]).length:=by rw[h3.1];exact Nat.mod_lt _ hV
  obtain⟨z,hz,hd⟩:=p3 _ _ _ _ h2 (au h4);have yQ:q / size*size+q % size=q:=by rw[Nat.mul_comm];exact Nat.div_add_mod q size
  rw[yQ]at hz;have e:f q=z:=by simp[f,hz]
  rw[e];exact⟨hz,hd.jd (h3.2 _ (List.getElem_mem h4))⟩
 refine⟨(List.range (aW.length*size)).map f,by simp,λj u hj=>?_,λu hu=>?_,λi r j d hi hj=>?_⟩
 .have hD:j<aW.length*size:=by have:=(aB.1 hj).1;simpa using this
  rw[de];have:f j=u:=by simpa [hD] using hj
  rw[<- this];exact(kz j hD).1
 .obtain⟨q,hq,rfl⟩:=List.mem_map.1 hu;exact(kz q (by simpa using hq)).2
 .obtain⟨z,hz,hd⟩:=p3 i r j d hi hj;have hD:i*size+j<aW.length*size:=by
   have h1:=(aB.1 hi).1;have h2:=(aB.1 hj).1;rw[(p1 r (aD hi)).1]at h2;have:(i+1)*size<=aW.length*size:=Nat.mul_le_mul_right _ h1;rw[Nat.add_mul]at this;omega
  refine⟨z,?_,hd⟩;have:f (i*size+j)=z:=by simp[f,hz]
  simp[hD,this]
theorem JO{w:World}{R:D->Value->Prop}{e:TypeId}{size:Nat}{rows:List (List D)}{b off cap:Nat}{cur:Array Value}{ys:List Value}(hz:0<size)(hc:rows.length<=cap)(hm:cap<=maxLen)(h1:∀r∈rows,r.length=size/\ ∀d∈r,d.one=true)
 (hb:w.heap[b]? =some (.cells cur e (0,0))) (hs:off+cap*size<=cur.size) (hy:∀j u,ys[j]? =some u->cur[off+j]? =some u) (h:∀i r j d,rows[i]? =some r->r[j]? =some d-> ∃u,ys[i*size+j]? =some u/\R d u) :
 iJ w R e size rows (.slice (some ⟨b,off,none⟩) rows.length cap) :=
 ⟨_,cap,rfl,⟨hz,hc,hm⟩,h1,.inr ⟨b,off,cur,rfl,hb,hs,λi r j d hi hj=>by
  obtain⟨u,hu,hr⟩:=h i r j d hi hj;exact⟨u,hy _ u hu,hr⟩⟩⟩
theorem Bl(hT:bD cx)(hs:bN cx E st σ a w){t e ty:TypeId}{ei:TI}(xg:cB cx t=some (e,ei))(hV:1<=ei.size){x:AV}{aW:List (List D)}(hx:oI st x=some (ei.size,aW)){u v:Value}(hr:aG w E.O (live st.heap) σ x u)
 {rows:List (List D)} (hv:iJ w (Rep w (Own E.O (live st.heap) σ)) e ei.size rows v) (yg:rows.length+aW.length<=maxLen) (xY:(rows.length+aW.length)*ei.bytes<=140737488355328) :
 ∃v' w',(Builtin.append_ #[t,t] ty #[v,u]).run cx.P w= .ok v' w' /\w'.os=w.os/\w'.tape=w.tape/\w'.output=w.output/\w.heap.size<=w'.heap.size/\(∀k,k<w.heap.size->home v≠some k->w'.heap[k]? =w.heap[k]?) /\
  (∀g,home v' =some g->home v=some g\/w.heap.size<=g)/\iJ w' (Rep w (Own E.O (live st.heap) σ)) e ei.size (rows++aW) v' :=by
 obtain⟨ti,ht,yw,yn⟩:=cC xg;obtain⟨_,_,_,_,t2,t3,_⟩:=hT _ _ ht;rw[yw]at t3;obtain rfl:=bZ t3;obtain⟨info,desc,zv,i1,i2,i3,i4,i5,i6,i7,i8,i9,i10⟩:=hT _ _ yn;obtain⟨ad,c,rfl,p1,p2⟩:=Cm hs hx hr;have yy:rows.length+aW.length<=9223372036854775807:=by simpa [maxLen] using yg
 by_cases hR:aW=[]
 .subst hR;obtain⟨aa,cap,rfl,⟨k1,k2,k3⟩,k4,k5⟩:=hv;refine⟨_,w,ng cx.P w t2 i1 k2 ad c,rfl,rfl,rfl,Nat.le_refl _,λ_ _ _=>rfl,λg hg=> .inl hg,?_⟩;rw[List.append_nil];exact⟨aa,cap,rfl,⟨k1,k2,k3⟩,k4,k5⟩
 obtain⟨B,xI,rfl,p3⟩:=p2 hR;obtain⟨news,n1,n2,n3,n4⟩:=Re hs hV p1 p3;have xT:0<aW.length:=List.length_pos_iff.2 hR;obtain⟨aa,cap,rfl,⟨k1,k2,k3⟩,k4,k5⟩:=hv;have hW:∀r∈rows++aW,r.length=ei.size/\ ∀d∈r,d.one=true:=λr hr=>by
  rcases List.mem_append.1 hr with hr|hr
  .exact k4 r hr
  .exact p1 r hr
 have ay:zv.cells.size=ei.size:=by rw[i7, <- i8]
 have fresh : ∀ (xm : Nat) (xs : List Value), xs.length = rows.length * ei.size -> (∀ i r j d, rows[i]? = some r -> r[j]? = some d -> ∃ u, xs[i * ei.size + j]? = some u /\ Rep w (Own E.O (live st.heap) σ) d u) ->
     iJ (w.drew.alloc (.cells (xs.toArray++news.toArray++Builtin.zeroCells zv.cells (grownCap w (rows.length+aW.length) xm e-(rows.length+aW.length))) e)) (Rep w (Own E.O (live st.heap) σ)) e ei.size (rows++aW)
      (.slice (some ⟨w.heap.size,0,none⟩) (rows.length+aW.length) (grownCap w (rows.length+aW.length) xm e)):=by
  intro xm xs zL zo;have xQ:=grownCap_ge w (rows.length+aW.length) xm e;have zx:=grownCap_le_maxLen w (rows.length+aW.length) xm e yg;have:=JO (w:=w.drew.alloc (.cells (xs.toArray++news.toArray++Builtin.zeroCells zv.cells (grownCap w (rows.length+aW.length) xm e-(rows.length+aW.length))) e)) (R:=Rep w (Own E.O (live st.heap) σ)) (rows:=rows++aW) (b:=w.heap.size) (off:=0) (cap:=grownCap w (rows.length+aW.length) xm e) (ys:=xs++news) k1 (by rw[List.length_append];exact xQ) zx hW (heap_alloc_new w.drew _)
   (by simp only[Array.size_append,List.size_toArray,size_zeroCells,ay,zL,n1, <- Nat.add_mul,Nat.zero_add];exact Nat.mul_le_mul_right _ (by omega))
   (λj u hj=>by
    have hD:=(aB.1 hj).1;rw[Nat.zero_add,Array.getElem?_append_left (by simpa using hD), <- bx];simpa using hj)
   (λi r j d hi hj=>mM (w:=w) (w' :=w) zL (bw.refl w _) zo n4 i r j d hi hj)
  rw[List.length_append]at this;exact this
 rcases k5 with ⟨rfl,zT⟩|⟨g,off,cur,rfl,hg,xw,hQ⟩
 .subst zT;obtain rfl:rows=[]:=List.eq_nil_of_length_eq_zero (by omega);have hC:=run_append_nil (P:=cx.P) w t ty e info zv t2 i1 i6 ⟨B,xI,none⟩ aW.length c news (by rw[i4];exact n1) n2 xT (by simp at yy;omega) (by rw[i5];simp at xY;omega);refine⟨_,_,hC,rfl,rfl,rfl,by simp,λk hk _=>heap_alloc_old w.drew _ hk,λg hg=>by cases hg;exact .inr (Nat.le_refl _),?_⟩;have:=fresh 0 [] (by simp) (λi r j d hi=>by simp at hi);simpa using this
 .by_cases kj:rows.length+aW.length<=cap
  .have hmul:rows.length*ei.size+aW.length*ei.size<=cap*ei.size:=by rw[<- Nat.add_mul];exact Nat.mul_le_mul_right _ kj
   have ky:=run_storeCells_at cx.P g (off+rows.length*ei.size) e news 0 cur w hg (by rw[n1];omega) n3;simp only[Nat.add_zero]at ky;have hf:=run_firstCells_some (P:=cx.P) w ei.size aW.length ⟨B,xI,none⟩ aW.length c news n1 n2
   have hC : (Builtin.append_ #[t, t] ty #[.slice (some ⟨g, off, none⟩) rows.length cap, .slice (some ⟨B, xI, none⟩) aW.length c]).run cx.P w =
       .ok (.slice (some ⟨g,off,none⟩) (rows.length+aW.length) cap) (w.setRow g (cur.toList.take (off+rows.length*ei.size)++news++cur.toList.drop (off+rows.length*ei.size+news.length)).toArray):=by
    simp[Builtin.append_,run_underlying t2,Go.sizeOf,typeInfo,i1,i4,Builtin.lenOf,kj,hf,de,ky]
   refine⟨_,_,hC,rfl,rfl,rfl,by simp,λk _ hk=>setRow_other w g k _ (λe=>hk (by rw[e];rfl)),λg' yV => .inl yV,?_⟩;have yh:off+rows.length*ei.size<=cur.toList.length:=by rw[Array.length_toList];exact Nat.le_trans (Nat.add_le_add_left (Nat.le_trans (Nat.le_add_right _ _) hmul) _) xw
   have:=JO (w:=w.setRow g (cur.toList.take (off+rows.length*ei.size)++news++cur.toList.drop (off+rows.length*ei.size+news.length)).toArray) (R:=Rep w (Own E.O (live st.heap) σ)) (rows:=rows++aW) (b:=g) (off:=off) (cap:=cap)
    (ys:=(List.range (rows.length*ei.size)).map (λq=>cur.getD (off+q) Go.undef)++news) k1 (by rw[List.length_append];exact kj) k3 hW (setRow_heap w g cur _ e _ hg)
    (by simp only[List.size_toArray,List.length_append,List.length_take,List.length_drop,Array.length_toList];rw[n1];omega)
    (λj u hj=>by
     rw[List.getElem?_toArray];by_cases hD:j<rows.length*ei.size
     .rw[cU (by simpa using hD)]at hj;have hu:cur.getD (off+j) Go.undef=u:=by simpa [hD] using hj
      rw[cU (by simp;omega),cU (by simp;omega),List.getElem?_take_of_lt (by omega),bx, <- hu];have hc:off+j<cur.size:=by omega
      simp[hc]
     .rw[cL (by simpa using Nat.le_of_not_lt hD)]at hj;simp only[aA,List.length_range]at hj;have aF:=(aB.1 hj).1;have zj:(cur.toList.take (off+rows.length*ei.size)).length=off+rows.length*ei.size:=by rw[List.length_take];omega
      rw[cU (by rw[List.length_append,zj];omega),cL (by rw[zj];omega),zj, <- hj]
      congr 1;omega)
    (λi r j d hi hj=>mM (w:=w) (w' :=w) (by simp) (bw.refl w _) (λi r j d hi hj=>by
     obtain⟨u,hu,hd⟩:=hQ i r j d hi hj;have h1:=(aB.1 hi).1;have h2:=(aB.1 hj).1;rw[(k4 r (aD hi)).1]at h2;have h3:(i+1)*ei.size<=rows.length*ei.size:=Nat.mul_le_mul_right _ h1;rw[Nat.add_mul]at h3;have hD:i*ei.size+j<rows.length*ei.size:=by omega
     refine⟨u,?_,hd⟩;have:cur.getD (off+(i*ei.size+j)) Go.undef=u:=by rw[bM,hu];rfl
     rw[bc,List.getElem?_range hD];exact congrArg some this) n4 i r j d hi hj)
   rw[List.length_append]at this;exact this
  .have hmul:rows.length*ei.size<=cap*ei.size:=Nat.mul_le_mul_right _ k2;have holds:∀j u,((List.range (rows.length*ei.size)).map (λq=>cur.getD (off+q) Go.undef))[j]? =some u->w.cell? ((⟨g,off,none⟩:Addr).add j)=some u:=λj u hj=>by
    have hD:j<rows.length*ei.size:=by have:=(aB.1 hj).1;simpa using this
    rw[de];have hu:cur.getD (off+j) Go.undef=u:=by simpa [hD] using hj
    have hc:off+j<cur.size:=by omega
    rw[<- hu];simp[World.cell?,hg,hc]
   have hC:=run_append_grow (P:=cx.P) w t ty e info zv t2 i1 i6 ⟨g,off,none⟩ rows.length cap _ (by rw[i4];simp) holds ⟨B,xI,none⟩ aW.length c news (by rw[i4];exact n1) n2 (by omega) (by omega) (by rw[i5];exact growslice_fits (by omega) xY);refine⟨_,_,hC,rfl,rfl,rfl,by simp,λk hk _=>heap_alloc_old w.drew _ hk,λg' yV =>by cases yV;exact .inr (Nat.le_refl _),?_⟩;refine fresh cap _ (by simp) λi r j d hi hj=>?_
   obtain⟨u,hu,hd⟩:=hQ i r j d hi hj;have h1:=(aB.1 hi).1;have h2:=(aB.1 hj).1;rw[(k4 r (aD hi)).1]at h2;have h3:(i+1)*ei.size<=rows.length*ei.size:=Nat.mul_le_mul_right _ h1;rw[Nat.add_mul]at h3;have hD:i*ei.size+j<rows.length*ei.size:=by omega
   refine⟨u,?_,hd⟩;have:cur.getD (off+(i*ei.size+j)) Go.undef=u:=by rw[bM,hu];rfl
   rw[bc,List.getElem?_range hD];exact congrArg some this
def zq(cx:Cx)(st:St)(t:TypeId)(s:Nat)(x:AV)(k:AV->List (Nat×AV)->List (Nat×Blk)->Prop):Prop :=
 match cB cx t,find st.heap s,oI st x with
 |some (e,ei),some (.tail e' sz rows),some (zp,aW)=>(match Nat.ble 1 ei.size,Nat.beq e e',Nat.beq ei.size sz,Nat.beq zp ei.size with
  |true,true,true,true=>rows.length+aW.length<=9223372036854775807/\(rows.length+aW.length)*ei.bytes<=140737488355328/\k (.own s) (il s st.aV) ((s,.tail e' sz (rows++aW))::eL s st.heap)
  |_,_,_,_=>False)
 |_,_,_=>False
theorem LM(hT:bD cx){o:Oper}{s x:Operand}{t:TypeId}(ho:o.op= .call {callee:= .builtin .append,args:= #[s,x],argTypes:= #[t,t]}){site:Nat}(yC:st.ev cx s= .own site){k:AV->List (Nat×AV)->List (Nat×Blk)->Prop}
 (h:zq cx st t site (ju cx t (st.ev cx x)) k):∃v sl hp,jh cx o st ⟨bF sl o.dst v,hp⟩/\k v sl hp:=by
 have hM:∀(a:Act) (w:World) {z:Value} {w' :World},(Builtin.append_ #[t,t] o.type #[a.eval s,a.eval x]).run cx.P w= .ok z w' ->(execOp a.eval o).run cx.P w= .ok (.value z) w' :=λa w z w' hh=>by
  simp[execOp,ho,resolve,invoke,builtin,hh]
 unfold zq at h;split at h
 .rename_i e ei e' sz rows zp aW xg hf xD;split at h
  .rename_i c1 c2 c3 c4;have hV:1<=ei.size:=bB c1;obtain rfl:e=e' :=bd c2;obtain rfl:ei.size=sz:=bd c3;obtain rfl:zp=ei.size:=bd c4;obtain⟨b1,b2,hk⟩:=h;refine⟨_,_,_,λE a w Q hd ⟨σ,hs⟩=>?_,hk⟩;have xf:=hs.ev (St.le.refl st) s;rw[yC]at xf;have xC:=jv (cx:=cx) (t:=t) (hs.ev (St.le.refl st) x);obtain⟨o1,o2⟩:=hs.holds.blk site _ hf;have hl:live st.heap site:=aH.2 ⟨_,hf⟩;obtain⟨v',w',r1,q1,q2,q3,q4,q5,q6,q7⟩:=Bl (ty:=o.type) hT hs xg hV xD xC o1 (by simpa [maxLen] using b1) b2;have kH :a.eval s=σ site:=by generalize a.eval s=u at xf;cases xf;rfl
   rw[<- kH]at r1;simp only[Oper.wp,hM a w r1,Oper.upon];refine hs.GI (τ:=v') hd hl (λaa e=>by obtain⟨_,_,e',_⟩:=o1;rw[e']at e;cases e) q1 q2 q3 q4 q5 q6 (λσ' e1 hN=>?_) (λσ' e1=>?_)
   .refine⟨?_,λb hb=>?_⟩
    .rw[e1];exact q7.mono (λ_ _=>rfl) λ_ _ hr=>hr.mono hN
    .rw[e1]at hb;rcases q6 b hb with hb|hb
     .exact o2 b hb
     .exact hs.new b (Nat.le_trans hs.frame.size hb)
   .have:=aG.own (w:=w') (O:=E.O) (σ:=σ') site hl;rw[e1]at this;exact this
  .exact h.elim
 .exact h.elim
def rowsOf:Option Blk->Option (TypeId×Nat×List (List D))
 |some (.row e sz rows _)=>some (e,sz,rows)
 |some (.tail e sz rows)=>some (e,sz,rows)
 |_=>none
def zr(cx:Cx)(st:St)(t:TypeId)(s:Nat)(lo:AV)(k:AV->List (Nat×AV)->List (Nat×Blk)->Prop):Prop :=
 match cB cx t,rowsOf (find st.heap s),lo with
 |some (_,ei),some (e,sz,rows),.d (.int _ n)=>(match Nat.beq ei.size sz with
  |true=>(0<=n/\n.toNat<=rows.length)/\k (.own s) (il s st.aV) ((s,.tail e sz (rows.drop n.toNat))::eL s st.heap)
  |false=>False)
 |_,_,_=>False
theorem Il{F:Nat->Prop}{O L:Nat->Prop}{s:Nat}{b:Blk}{e:TypeId}{sz:Nat}{rows:List (List D)}(h:rowsOf (some b)=some (e,sz,rows))(hb:cZ w F O L σ s b):iJ w (Rep w (Own O L σ)) e sz rows (σ s)/\ ∀g,home (σ s)=some g->F g:=by
 cases b with
 |row e0 s0 r0 fl =>
  cases h;obtain⟨xs,o1,o2,o3,o4,o5⟩:=hb;refine⟨?_,o2⟩;rcases o1.2 with ⟨e1,e2⟩|⟨g,cap,cur,e1,_,e3,e4,e5,e6,e7⟩
  .exact⟨none,0,by rw[e1,e2],⟨o3.1,by omega,Nat.zero_le _⟩,o4,.inl ⟨rfl,rfl⟩⟩
  .refine⟨_,cap,e1,⟨o3.1,e4,e5⟩,o4,.inr ⟨g,0,cur,rfl,e3,by omega,λi r j d hi hj=>?_⟩⟩;obtain⟨u,hu,hd⟩:=o5 i r j d hi hj;refine⟨u,?_,hd⟩;rw[<- e7,List.getElem?_take]at hu;split at hu
   .rw[Nat.zero_add];simpa using hu
   .cases hu
 |tail e0 s0 r0=>cases h;exact hb
 |_=>cases h
theorem LN(hT:bD cx){o:Oper}{t:TypeId}{x lo:Operand}(ho:o.op= .slice t x (some lo) none none){site:Nat}(hx:st.ev cx x= .own site){k:AV->List (Nat×AV)->List (Nat×Blk)->Prop}
 (h:zr cx st t site (st.ev cx lo) k):∃v sl hp,jh cx o st ⟨bF sl o.dst v,hp⟩/\k v sl hp:=by
 unfold zr at h;split at h
 .rename_i e0 ei e sz rows ki n xg hf ai;split at h
  .rename_i hV;obtain rfl:ei.size=sz:=bd hV;obtain⟨⟨h0,hn⟩,hk⟩:=h;refine⟨_,_,_,λE a w Q hd ⟨σ,hs⟩=>?_,hk⟩;have xC:=hs.ev (St.le.refl st) x;rw[hx]at xC;have zf:=hs.ev (St.le.refl st) lo;rw[ai]at zf;obtain⟨b,hb⟩:∃b,find st.heap site=some b:=by
    cases hfb:find st.heap site with
    |none=>rw[hfb]at hf;cases hf
    |some b=>exact⟨b,rfl⟩
   rw[hb]at hf;have hl:live st.heap site:=aH.2 ⟨_,hb⟩;obtain⟨⟨aa,cap,e1,⟨k1,k2,k3⟩,k4,k5⟩,o2⟩:=Il hf (hs.holds.blk site _ hb);have kH :a.eval x=σ site:=by generalize a.eval x=u at xC;cases xC;rfl
   obtain⟨ti,ht,yw,yn⟩:=cC xg;obtain⟨_,_,_,_,t2,t3,_⟩:=hT _ _ ht;rw[yw]at t3;obtain rfl:=bZ t3;obtain⟨_,r2⟩:=dH (w:=w) hT yn;have xA:n<=rows.length:=by omega
   have hC:(execOp a.eval o).run cx.P w= .ok (.value (.slice (if cap=n.toNat then aa else aa.map (·.add (n.toNat*ei.size))) (rows.length-n.toNat) (cap-n.toNat))) w:=by
    simp[execOp,ho,kH,e1,zf.int,Instr.sliceAt,Instr.slice,Instr.sliceBounds,Instr.sliceBound,run_underlying t2,asIntOf,h0,xA,r2]
   simp only[Oper.wp,hC,Oper.upon];have zz:(rows.drop n.toNat).length=rows.length-n.toNat:=List.length_drop;refine hs.GI (τ:= .slice (if cap=n.toNat then aa else aa.map (·.add (n.toNat*ei.size))) (rows.length-n.toNat) (cap-n.toNat)) hd hl (λaa e=>by rw[e1]at e;cases e) rfl rfl rfl (Nat.le_refl _) (λ_ _ _=>rfl) (λg hg=>?_) (λσ' yG hN=>?_) (λσ' yG =>?_)
   .refine .inl ?_;rw[e1];rcases k5 with ⟨rfl,_⟩|⟨g',off,cur,rfl,_⟩
    .split at hg <;> cases hg
    .split at hg
     .exact hg
     .simp only[Option.map_some,de]at hg;exact hg
   .have ya:∀g,home (σ' site)=some g->E.F g:=λg hg=>by
     refine o2 g ?_;rw[yG ]at hg;rw[e1];rcases k5 with ⟨rfl,_⟩|⟨g',off,cur,rfl,_⟩
     .split at hg <;> cases hg
     .split at hg
      .exact hg
      .simp only[Option.map_some,de]at hg;exact hg
    refine⟨?_,ya⟩;rw[yG];refine⟨_,_,by rw[zz],⟨k1,by omega,by omega⟩,λr hr=>k4 r (List.mem_of_mem_drop hr),?_⟩;rcases k5 with ⟨rfl,hc⟩|⟨g',off,cur,rfl,q1,q2,q3⟩
    .exact .inl ⟨by split <;> rfl,by omega⟩
    .by_cases zy:cap=n.toNat
     .rw[if_pos zy];refine .inr ⟨g',off,cur,rfl,q1,by(have:cap-n.toNat=0:=by omega);rw[this];omega,λi r j d hi hj=>?_⟩;have h1:=(aB.1 hi).1;rw[zz]at h1;omega
     .rw[if_neg zy];simp only[Option.map_some,de];have zx:n.toNat*ei.size+(cap-n.toNat)*ei.size=cap*ei.size:=by rw[<- Nat.add_mul];congr 1;omega
      refine .inr ⟨g',off+n.toNat*ei.size,cur,rfl,q1,by omega,λi r j d hi hj=>?_⟩;rw[List.getElem?_drop]at hi;obtain⟨u,hu,hd⟩:=q3 _ r j d hi hj;refine⟨u,?_,hd.mono hN⟩;rw[<- hu,Nat.add_mul]
      congr 1;omega
   .have:=aG.own (w:=w) (O:=E.O) (σ:=σ') site hl;rw[yG]at this;exact this
  .exact h.elim
 .exact h.elim
end
def wc:List D->D
 |[.tuple [d]]=>d
 |cs=> .agg cs
theorem FL{w:World}{O:Nat->Prop}{k:List D}{u:Value}(h:lG k u):Rep w O (wc k) u:=by
 have flat:∀{d:D} {v:Value},eD d v->Rep w O d v/\d.one=true:=λ{d v} h=>by
  cases d with
  |int kk n=>obtain rfl:v= .int kk n:=h;exact⟨.int _ _,rfl⟩
  |bool b=>obtain rfl:v= .bool b:=h;exact⟨.bool _,rfl⟩
  |str s=>obtain⟨b,rfl,hb⟩:∃b:ByteArray,v= .string b/\b.data.toList=s:=h;exact⟨.str _ _ hb,rfl⟩
  |_=>exact h.elim
 rcases h with ⟨d,rfl,h⟩|⟨vs,rfl,hl,h⟩
 .exact(flat h).1
 .have hR:∀d,k≠[.tuple [d]]:=λd e=>by subst e;exact(h 0 _ rfl).elim
  have e:wc k= .agg k:=by
   unfold wc;split
   .exact absurd rfl (hR _)
   .rfl
  rw[e];refine .agg _ _ hl (λd hd=>?_) λj d hj=>(flat (h j d hj)).1
  obtain⟨j,hj⟩:=cQ hd;exact(flat (h j d hj)).2
def Cb(k:List D)(x:D):AV:= .tuple [.d (.bool true),(wc k).dX,x.dX]
def Bv(cx:Cx)(st:St)(o:Oper):Option (Nat×List (List D×D)) :=
 match o.op with
 | .next it zM=>(match zM,st.ev cx it with
  |false,.ptr s 0=>(match find st.heap s with|some (.iter left _)=>some (s,left)|_=>none)
  |_,_=>none)
 |_=>none
def xz(cx:Cx)(st:St)(o:Oper):Option (Nat×List (List D×D)) :=
 match o.op with
 | .range t x=>(match isMap cx t,o.dst,st.ev cx x with
  |true,some d,.d (.cY m)=>some (d,m)
  |_,_,_=>none)
 |_=>none
theorem vK{α:Type}:∀{l:List α} {i:Nat} {p:α->Bool},(∀(j:Nat) x,l[j]? =some x->(p x=true ↔ j≠i))->l.filter p=l.eraseIdx i
 |[],i,p,_=>by simp
 |x::t,0,p,h=>by
  have h0:=h 0 x rfl;rw[List.filter_cons_of_neg (by simpa using h0),List.eraseIdx_cons_zero];refine List.filter_eq_self.2 λy hy=>?_
  obtain⟨j,hj⟩:=cQ hy;exact(h (j+1) y (by simpa using hj)).2 (by omega)
 |x::t,i+1,p,h=>by
  have h0:=h 0 x rfl;rw[List.filter_cons_of_pos (h0.2 (by omega)),List.eraseIdx_cons_succ,vK (i:=i) λj y hj=>?_];rw[h (j+1) y (by simpa using hj)];omega
theorem yj{es:Array MapEntry}{seen:Array Nat}{clock i:Nat}{e:MapEntry}(hs:jN es clock)(he:(leftOf es seen)[i]? =some e):(leftOf es (seen.push e.born)).toList=(leftOf es seen).toList.eraseIdx i:=by
 have e1:(leftOf es (seen.push e.born)).toList=(leftOf es seen).toList.filter λx=> !(x.born==e.born):=by
  unfold leftOf;rw[Array.toList_filter,Array.toList_filter,List.filter_filter];refine List.filter_congr λx _=>?_
  rw[Array.contains_push,Bool.not_or,Bool.and_comm]
 rw[e1];refine vK λj x hj=>?_
 have hn:((leftOf es seen).toList.map (·.born)).Nodup:=by
  unfold leftOf;rw[Array.toList_filter];exact(List.filter_sublist.map _).nodup hs.2
 have hi:(leftOf es seen).toList[i]? =some e:=by rw[bx];exact he
 simp only[Bool.not_eq_true',beq_eq_false_iff_ne];constructor
 .rintro h rfl;rw[hi]at hj;cases hj;exact h rfl
 .intro hR hb;have a1:((leftOf es seen).toList.map (·.born))[j]? =some x.born:=by rw[bc,hj];rfl
  have a2:((leftOf es seen).toList.map (·.born))[i]? =some e.born:=by rw[bc,hi];rfl
  rw[hb]at a1;obtain⟨yv,_⟩:=aB.1 a1;exact hR ((List.getElem?_inj yv hn).1 (a1.trans a2.symm))
section
variable {cx:Cx} {st:St} {E:Env} {a:Act} {w:World}
theorem Tc{o:Oper}{s:Nat}{left:List (List D×D)}(hw:Bv cx st o=some (s,left)){k:Act->World->Prop}{Q:Exit->Act->World->Prop}(hd:∀e,o.dst=some e->e<E.nt)(hs:Sim cx E st a w)
 (h0:left=[]-> ∀a' w',Sim cx E ⟨bF st.aV o.dst (.tuple [.d (.bool false)]),st.heap⟩ a' w' ->k a' w')
 (h1:∀i kk x,left[i]? =some (kk,x)-> ∀a' w',Sim cx E ⟨bF st.aV o.dst (Cb kk x),(s,.iter (left.eraseIdx i) (some (kk,x)))::st.heap⟩ a' w' ->k a' w'):o.wp cx.P a w k Q:=by
 unfold Bv at hw;split at hw
 case h_2=>cases hw
 rename_i it zM ho;split at hw
 case h_2=>cases hw
 rename_i s' yo;split at hw
 case h_2=>cases hw
 rename_i zN xp hf;cases hw;obtain⟨σ,hs⟩:=hs;have hr:=hs.ev (St.le.refl st) it;rw[yo]at hr;obtain⟨⟨b,mb,es,clock,seen,e1,e2,⟨e3,e4,e5⟩,e6,⟨e7,_⟩,e8⟩,hF⟩:=hs.holds.blk s _ hf;have hl:live st.heap s:=aH.2 ⟨_,hf⟩;have xP :a.eval it= .pointer (some ⟨b,0,none⟩):=by
  generalize a.eval it=u at hr
  cases hr with|ptr _ _ b' hL h=>rw[e1]at h;cases h;rfl
 have hC:=run_next_at (P:=cx.P) w o.type b mb clock clock seen es clock e2 e5 (λx hx=>e6.1 x hx) (Nat.le_refl _);have hM:∀{v:Value} {w' :World},(Instr.next (.pointer (some ⟨b,0,none⟩)) false o.type).run cx.P w= .ok v w' ->(execOp a.eval o).run cx.P w= .ok (.value v) w' :=λ{v w'} h=>by
  simp only[execOp,ho,xP,Sem.run_bind,h,Result.andThen,Sem.run_pure]
 rcases hC with ⟨hz,hC⟩|⟨e,he,w1,yE,hC⟩
 .have zc:left=[]:=List.eq_nil_of_length_eq_zero (by omega);have:=hM hC;simp only[Oper.wp,this,Oper.upon];refine h0 zc _ _ ⟨σ,?_⟩;have hh:=hs.put (v:= .tuple [.d (.bool false)]) (u:= .tuple #[.bool false]) hd (.tuple _ _ rfl λj c hj=>by
   rcases j with _|j
   .cases hj;exact .d _ _ (.bool _)
   .simp at hj)
  exact hh
 .obtain⟨i,hi⟩:=cQ he;have yH :(leftOf es seen)[i]? =some e:=by rw[<- bx];exact hi
  have ab:i<left.length:=by rw[<- e7];exact(bI.1 yH).1
  obtain⟨⟨kk,x⟩,hx⟩:∃p,left[i]? =some p:=⟨_,au ab⟩
  obtain⟨e',q1,q2,q3⟩:=e8 i kk x hx;rw[yH]at q1;cases q1;have:=hM hC;simp only[Oper.wp,this,Oper.upon];refine h1 i kk x hx _ _ ⟨σ,?_⟩;have zS:b<w.heap.size:=(bI.1 e2).1;have aw:∀k:Nat,w1.heap[k]? =w.heap[k]? :=λk=>by rcases yE with h|h <;> rw[h];rfl
  have yJ:w1.heap.size=w.heap.size:=by rcases yE with h|h <;> rw[h];rfl
  have hR:∀j,j≠b->(ChangeMaps.setBlock w1 b (.mapIter (some mb) clock (seen.push e.born) clock)).heap[j]? =w.heap[j]? :=λj hj=>by
   show(w1.heap.setIfInBounds b _)[j]? =_
   rw[Array.getElem?_setIfInBounds_ne (Ne.symm hj)];exact aw j
  have zu:Own E.O (live st.heap) σ b:= .inr ⟨s,hl,by rw[e1];rfl⟩;have aj:mb≠b:=λe=>e3 (e ▸ zu)
  refine hs.OL hd hl (g:=b) (by rw[e1];rfl) (by rcases yE with h|h <;> (rw[h];rfl)) (by rcases yE with h|h <;> (rw[h];rfl)) (by rcases yE with h|h <;> (rw[h];rfl)) (by show w.heap.size<=(w1.heap.setIfInBounds b _).size;simp[yJ]) (λj _ hj=>hR j hj) (λhk=>?_) ?_
  .refine⟨⟨b,mb,es,clock,seen.push e.born,e1,?_,⟨e3,?_,(hR mb aj).trans e5⟩,e6,⟨?_,λk2 x2 hc=>?_⟩,λj k2 x2 hj=>?_⟩,hF⟩
   .show(w1.heap.setIfInBounds b _)[b]? =_
    rw[Array.getElem?_setIfInBounds_self_of_lt (by rw[yJ];exact zS)]
   .show mb<(w1.heap.setIfInBounds b _).size
    simp[yJ];exact e4
   .have:=congrArg List.length (yj e6 yH);rw[List.length_eraseIdx]at this;rw[List.length_eraseIdx];simp only[Array.length_toList]at this;rw[this,e7]
   .cases hc;exact⟨e,⟨(mem_left he).1,by simp⟩,q2,q3.mono hk⟩
   .have hg:(leftOf es (seen.push e.born))[j]? =((leftOf es seen).toList.eraseIdx i)[j]? :=by rw[<- bx,yj e6 yH]
    rw[hg];rw[List.getElem?_eraseIdx]at hj ⊢;split at hj
    .rename_i yY;rw[if_pos yY,bx];obtain⟨z,z1,z2,z3⟩:=e8 j k2 x2 hj;exact⟨z,z1,z2,z3.mono hk⟩
    .rename_i yY;rw[if_neg yY,bx];obtain⟨z,z1,z2,z3⟩:=e8 (j+1) k2 x2 hj;exact⟨z,z1,z2,z3.mono hk⟩
  .have hk:bw w (ChangeMaps.setBlock w1 b (.mapIter (some mb) clock (seen.push e.born) clock)) (Own E.O (live st.heap) σ) (Own E.O (live st.heap) σ):=⟨by show w.heap.size<=(w1.heap.setIfInBounds b _).size;simp[yJ],λj hj _=>hR j λe=>hj (e ▸ zu),λ_ h _=>h⟩
   refine .tuple _ _ rfl λj c hj=>?_
   rcases j with _|_|_|j
   .cases hj;exact .d _ _ (.bool _)
   .cases hj;exact iR (FL q2)
   .cases hj;exact iR (q3.mono hk)
   .simp at hj
theorem NM(hT:bD cx){o:Oper}{d:Nat}{m:List (List D×D)}(hw:xz cx st o=some (d,m))(hf:find st.heap d=none):jh cx o st ⟨bF st.aV o.dst (.ptr d 0),(d,.iter m none)::st.heap⟩:=by
 unfold xz at hw;split at hw
 case h_2=>cases hw
 rename_i t x ho;split at hw
 case h_2=>cases hw
 rename_i d' m' ht yk yo;cases hw;intro E a w Q hd hs;obtain⟨σ,hs⟩:=hs;have hr:=hs.ev (St.le.refl st) x;rw[yo]at hr;generalize hu:a.eval x=u at hr;cases hr with|d _ _ hr =>
 obtain⟨mb,clock,es,rfl,g1,g2,g3,g4⟩:=hr.LP;obtain⟨kt,et,zn⟩:=ug hT ht;have hC:(execOp a.eval o).run cx.P w= .ok (.value (.pointer (some ⟨w.heap.size,0,none⟩))) (w.alloc (.mapIter (some mb) clock #[] clock)):=by
  simp[execOp,ho,Instr.range,hu,run_underlying zn,getObj,newObj,Sem.run,g3,Result.andThen]
 simp only[Oper.wp,hC,Oper.upon];have xA:¬live st.heap d:=by unfold live;rw[hf];simp
 let τ:Value:= .pointer (some ⟨w.heap.size,0,none⟩)
 let σ' :Nat->Value:=λs=>if s=d then τ else σ s
 have e1:σ' d=τ:=if_pos rfl;have e2:∀s,live st.heap s->σ' s=σ s:=λs hl=>by
  show(if s=d then τ else σ s)=σ s
  exact if_neg λe=>xA (by rw[<- e];exact hl)
 have ya:w.heap.size<=(w.alloc (.mapIter (some mb) clock #[] clock)).heap.size:=by simp
 have hZ:∀j,j<w.heap.size->(w.alloc (.mapIter (some mb) clock #[] clock)).heap[j]? =w.heap[j]? :=λj hj=>heap_alloc_old w _ hj
 have hk:bw w (w.alloc (.mapIter (some mb) clock #[] clock)) (Own E.O (live st.heap) σ) (Own E.O (live ([(d,Blk.iter m none)]++st.heap)) σ'):=by
  refine⟨ya,λj _ hj=>hZ j hj,λj hj hD ho=>hj ?_⟩;rcases ho with ho|⟨s,hl,e⟩
  .exact .inl ho
  .rcases cJ.1 hl with hl|hl
   .rw[cv]at hl;subst hl;rw[e1]at e;have:w.heap.size=j:=by simpa [τ,home] using e
    omega
   .rw[e2 s hl]at e;exact .inr ⟨s,hl,e⟩
 have xd:E.F w.heap.size:=hs.new _ hs.frame.size;refine⟨σ',hs.grow (bs:=[(d,.iter m none)]) hd e2 (jl _ _) (λq0 B hB hl=>?_) (λs b hl e=>?_) (λs s' b hl hS e e' =>?_) (λs b hb=>?_) (.ptr d 0 _ (cJ.2 (.inl (by rw[cv]))) e1)⟩
 .have h1:=(hs.fix q0 B hB).1;have h2:(d:Nat)<E.nt:=hd _ yk;rw[cv]at hl;omega
 .rw[cv]at hl;subst hl;rw[e1]at e;have:w.heap.size=b:=by simpa [τ,home] using e
  omega
 .rw[cv]at hl hS;exact hl.trans hS.symm
 .by_cases zH:d=s
  .subst zH;rw[bk]at hb;cases hb;refine⟨⟨w.heap.size,mb,es,clock, #[],e1,heap_alloc_new w _,⟨hk.own mb g1 g2,Nat.lt_of_lt_of_le g2 ya,(hZ mb g2).trans g3⟩,g4.1.2,⟨?_,λ_ _ hc=>by cases hc⟩,λj kk x hj=>?_⟩,λb hb=>?_⟩
   .have:leftOf es #[]=es:=by unfold leftOf;exact Array.filter_eq_self.2 λ_ _=>by simp
    rw[this];exact g4.1.1
   .have:leftOf es #[]=es:=by unfold leftOf;exact Array.filter_eq_self.2 λ_ _=>by simp
    rw[this];obtain⟨e,q1,q2,q3⟩:=g4.2 j kk x hj;exact⟨e,q1,q2,q3.mono hk⟩
   .rw[e1]at hb;have:w.heap.size=b:=by simpa [τ,home] using hb
    subst this;exact xd
  .rw[bl _ _ zH]at hb;simp[find]at hb
def xk(cx:Cx)(st:St)(o:Oper):Option (List D×D) :=
 match o.op with
 | .entry it=>(match st.ev cx it with
  | .ptr s 0=>(match find st.heap s with|some (.iter _ cur)=>cur|_=>none)
  |_=>none)
 |_=>none
theorem PI{o:Oper}{kk:List D}{x:D}(hw:xk cx st o=some (kk,x)):jh cx o st ⟨bF st.aV o.dst (.tuple [(wc kk).dX,x.dX]),st.heap⟩:=by
 unfold xk at hw;split at hw
 case h_2=>cases hw
 rename_i it ho;split at hw
 case h_2=>cases hw
 rename_i s yo;split at hw
 case h_2=>cases hw
 rename_i left cur hf;subst hw;intro E a w Q hd hs;obtain⟨σ,hs⟩:=hs;have hr:=hs.ev (St.le.refl st) it;rw[yo]at hr;obtain⟨⟨b,mb,es,clock,seen,e1,e2,⟨e3,e4,e5⟩,e6,⟨e7,e9⟩,e8⟩,hF⟩:=hs.holds.blk s _ hf;have xP :a.eval it= .pointer (some ⟨b,0,none⟩):=by
  generalize a.eval it=u at hr
  cases hr with|ptr _ _ b' hL h=>rw[e1]at h;cases h;rfl
 obtain⟨e,⟨q0,q1⟩,q2,q3⟩:=e9 kk x rfl;obtain⟨pre,ze⟩:∃pre:Array Nat,seen=pre.push e.born:=by
  rcases List.eq_nil_or_concat seen.toList with h|⟨l,y,h⟩
  .have:seen= #[]:=by rw[<- Array.toList_inj];exact h
   rw[this]at q1;simp at q1
  .have xV :seen=l.toArray.push y:=by rw[<- Array.toList_inj];simpa using h
   rw[xV]at q1;have:y=e.born:=by simpa using q1
   exact⟨l.toArray,by rw[xV,this]⟩
 rw[ze]at e2;have hC:=run_entry_at (P:=cx.P) w b mb clock pre es clock e e2 e5 q0 e6.2;have hM:(execOp a.eval o).run cx.P w= .ok (.value (.tuple #[e.key,e.val])) w:=by
  simp only[execOp,ho,xP,Sem.run_bind,hC,Result.andThen,Sem.run_pure]
 simp only[Oper.wp,hM,Oper.upon];refine⟨σ,hs.put (v:= .tuple [(wc kk).dX,x.dX]) (u:= .tuple #[e.key,e.val]) hd (.tuple _ _ rfl λj c hj=>?_)⟩;rcases j with _|_|j
 .cases hj;exact iR (FL q2)
 .cases hj;exact iR q3
 .simp at hj
end
def LB:AV->Bool
 | .d _=>true
 | .nil _=>true
 |_=>false
def RX:AV->Bool
 | .agg cs=>cs.all LB
 |v=>LB v
def FnC(cx:Cx)(f:FuncId)(args:List AV){ι:Type}(res:ι->AV)(bs:ι->List (Nat×Blk)):Prop :=
 gq cx.P f/\ ∀(O:Nat->Prop) (w:World) (vs:Array Value),(∀b,O b->b<w.heap.size)->jC cx w->(∀g cells,cx.gl g=some cells-> ¬O g)->vs.size=args.length ->
  (∀(j:Nat) c,args[j]? =some c->aG w O (λ_=>False) (λ_=> .nilFunc) c (vs.getD j Go.undef)) ->
  Calls cx.P f vs w λe w' => ∃i u τ,e= .returned u/\Below w.heap.size w w' /\Holds w' (w.heap.size<= ·) O (bs i) τ/\aG w' O (live (bs i)) τ (res i) u
theorem Da{w:World}{O L:Nat->Prop}{σ:Nat->Value}{c:AV}{u:Value}(hc:LB c=true)(h:aG w O L σ c u):aG w (Own O L σ) (λ_=>False) (λ_=> .nilFunc) c u:=by
 cases h with
 | d x v h => exact .d _ _ (h.mono (bw.less fun b hb => by
     rcases hb with hb|⟨s,hl,_⟩
     .exact hb
     .exact hl.elim))
 |nil=>exact .nil _
 |_=>cases hc
theorem QX{w:World}{O L:Nat->Prop}{σ:Nat->Value}{c:AV}{u:Value}(hc:RX c=true)(h:aG w O L σ c u):aG w (Own O L σ) (λ_=>False) (λ_=> .nilFunc) c u:=by
 cases c with
 |agg cs=>cases h with|agg _ vs hl hh=>exact .agg _ _ hl λj c hj=>Da (aI.1 hc c (aD hj)) (hh j c hj)
 |_=>exact Da hc h
def AL(cx:Cx)(st:St)(o:Oper):Option (FuncId×List AV) :=
 match o.op with
 | .call c=>(match c.callee with
  | .value f=>(match callee (st.ev cx f)with
   |some (g,a,b)=>(match Nat.beq (cx.chg g) 7,(a++cz cx st c.args.toList c.argTypes.toList++b).all RX with
    |true,true=>some (g,a++cz cx st c.args.toList c.argTypes.toList++b)
    |_,_=>none)
   |none=>none)
  |_=>none)
 |_=>none
section
variable {cx:Cx} {st:St} {nt:Nat}
theorem Tj{o:Oper}{g:FuncId}{as:List AV}(hp:AL cx st o=some (g,as)){ι:Type}{res:ι->AV}{bs:ι->List (Nat×Blk)}(kl:FnC cx g as res bs)(xy:∀i,uj (bs i)=true)(kg:∀i s,live (bs i) s-> ¬live st.heap s)
 (E:Env) (a:Act) (w:World) (Q:Exit->Act->World->Prop) (hd:∀e,o.dst=some e->e<E.nt) (hs:Sim cx E st a w):o.wp cx.P a w (λa' w' => ∃i,Sim cx E (st.put o.dst (res i) (bs i)) a' w') Q:=by
 unfold AL at hp;split at hp
 case h_2=>cases hp
 rename_i c ho;split at hp
 case h_2=>cases hp
 rename_i f hc;split at hp
 case h_2=>cases hp
 rename_i g' xs ys hg;split at hp
 case h_2=>cases hp
 rename_i _ yB;cases hp;obtain⟨σ,hs⟩:=hs;obtain⟨us,vs,hu,s1,s2,r1,r2⟩:=nD hg (hs.ev (St.le.refl st) f);obtain⟨l1,l2⟩:=iB (St.le.refl st) hs c.args.toList c.argTypes.toList;obtain⟨⟨fn,xu,xv,kI⟩,hY⟩:=kl;have kp :¬fn.name= "runtime.NumGoroutine" :=by simpa using xv
 have kq :¬fn.body=none:=by intro e;rw[e]at kI;cases kI
 have hC:(execOp a.eval o).run cx.P w= .ok (.enter g (us++c.args.map a.eval++vs)) w:=by
  simp[execOp,ho,resolve,hc,hu,Deferred.ofValue,invoke,callFunc,xu,kp,kq]
 have hW:=nX (R:=aG w E.O (live st.heap) σ) (A:=xs) (B:=cz cx st c.args.toList c.argTypes.toList) (C:=ys) (ys:=c.args.map a.eval) s1 (by simp[l1]) r1 (λj cc hj=>by
  obtain⟨x,hx,hr⟩:=l2 j cc hj;have:(c.args.map a.eval).getD j Go.undef=a.eval x:=by rw[bx]at hx;simp[hx]
  rw[this];exact hr) r2
 have hI:=hY (Own E.O (live st.heap) σ) w (us++c.args.map a.eval++vs) (λb hb=>hs.pX b hb) hs.nJ (λg cells kJ=>hs.qo kJ) (by simp[s1,s2,l1])
  (λj cc hj=>QX (aI.1 yB cc (aD hj)) (hW j cc hj))
 simp only[Oper.wp,hC,Oper.upon];refine hI.mono λe w' =>?_
 rintro⟨i,u,τ,rfl,ke,hU,hr⟩;dsimp only;refine⟨i,?_⟩
 classical
 let σ' :Nat->Value:=λs=>if live (bs i) s then τ s else σ s
 have e1:∀s,live (bs i) s->σ' s=τ s:=λs hl=>if_pos hl
 have e2:∀s,live st.heap s->σ' s=σ s:=λs hl=>if_neg λhb=>kg i s hb hl
 have hN:bw w' w' (Own (Own E.O (live st.heap) σ) (live (bs i)) τ) (Own E.O (live (bs i++st.heap)) σ'):=bw.less λb hb=>by
  rcases hb with hb|⟨s,hl,e⟩
  .exact .inl (.inl hb)
  .rcases cJ.1 hl with hl|hl
   .rw[e1 s hl]at e;exact .inr ⟨s,hl,e⟩
   .rw[e2 s hl]at e;exact .inl (.inr ⟨s,hl,e⟩)
 have kU:∀s,live (bs i) s->live (bs i++st.heap) s/\σ' s=τ s:=λs hl=>⟨cJ.2 (.inl hl),e1 s hl⟩
 refine⟨σ',hs.grow hd e2 ke (λq0 B hB hl=>by have:=BW (xy i) _ hl;have:=(hs.fix q0 B hB).1.2;omega) (λs b hl e=>?_) (λs s' b hl hS e e' =>?_) (λs b hb=>?_) (hr.mono hN kU)⟩
 .rw[e1 s hl]at e;exact(hU.home hl e).1
 .rw[e1 s hl]at e;rw[e1 s' hS]at e';exact hU.inj s s' b hl hS e e'
 .have hl:live (bs i) s:=aH.2 ⟨b,hb⟩;have:=(hU.blk s b hb).mono hN kU hl (λg _=>rfl);have hF:∀b,w.heap.size<=b->E.F b:=λb hb=>hs.new b (Nat.le_trans hs.frame.size hb)
  cases b with
  |box cells=>obtain⟨b,cur,t,q1,q2,q3⟩:=this;exact⟨b,cur,t,q1,hF _ q2,q3⟩
  |row e size rows fl=>obtain⟨xs,q1,q2,q3⟩:=this;exact⟨xs,q1,λb hb=>hF _ (q2 b hb),q3⟩
  |smap m=>obtain⟨b,es,cl,q1,q2,q3⟩:=this;exact⟨b,es,cl,q1,hF _ q2,q3⟩
  |cY m=>obtain⟨b,es,cl,q1,q2,q3⟩:=this;exact⟨b,es,cl,q1,hF _ q2,q3⟩
  |eF e size rows=>obtain⟨b,cur,t,q1,q2,q3⟩:=this;exact⟨b,cur,t,q1,hF _ q2,q3⟩
  |tail e size rows=>exact⟨this.1,λb hb=>hF _ (this.2 b hb)⟩
  |iter left cur=>exact⟨this.1,λb hb=>hF _ (this.2 b hb)⟩
  |dJ m=>obtain⟨b,es,cl,q1,q2,q3⟩:=this;exact⟨b,es,cl,q1,hF _ q2,q3⟩
end
end NQ
