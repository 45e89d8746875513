/-
  Merged texts.
-/
import Derived.Test.YtodofogcincleaaGreatDoorMQea
import Derived.Laws.Concat
set_option linter.all false
namespace NQ
open Go Go.RowKit
section
variable {cx:Cx} {st:St} {k:KK}
theorem bq.mU{E:Env}{σ:Nat->Value}{a:Act}{w:World}(h:bq cx E st σ a w):iN cx w:=λg cells hg=>by
 obtain⟨h1,h2,h3⟩:=h.glob g cells hg;obtain⟨hF,_⟩:=h.globF g cells hg;refine⟨Nat.lt_of_lt_of_le h1 h.frame.size,h2,λj d hj=>?_⟩;obtain⟨u,hu,hr⟩:=h3 j d hj;exact⟨u,by rw[World.cell?_of_block (a:=⟨g,j,none⟩) (h.frame.block g hF)];exact hu,hr.eL (ay.1 h2 d (ar hj))⟩
theorem bq.pf{E:Env}{σ:Nat->Value}{a:Act}{w:World}(h:bq cx E st σ a w)(b:Nat)(hb:Own E.O (live st.heap) σ b):b<w.heap.size:=by
 rcases hb with hb|⟨s,hs,e⟩
 . rcases Nat.lt_or_ge b E.w0.heap.size with hl|hg
   . exact Nat.lt_of_lt_of_le hl h.frame.size
   . exact absurd (h.new b hg) (h.apart b hb)
 . exact(h.holds.home hs e).2
theorem bq.pC{E:Env}{σ:Nat->Value}{a:Act}{w:World}(h:bq cx E st σ a w){g:Nat}{cells:List D}(hg:cx.gl g=some cells):¬Own E.O (live st.heap) σ g:=by
 obtain⟨hF,hO⟩:=h.globF g cells hg;rintro(hb|⟨s,hs,e⟩)
 . exact hO hb
 . exact hF (h.holds.home hs e).1
theorem gM{E:Env}{st' :St}{σ:Nat->Value}{a:Act}{w:World}(hle:st.le st')(hs:bq cx E st' σ a w):∀(xs:List Operand) (ts:List TypeId),(bM cx st xs ts).length=xs.length /\
 ∀(j:Nat) c,(bM cx st xs ts)[j]? =some c-> ∃x,xs[j]? =some x/\au w E.O (live st'.heap) σ c (a.eval x)
 |[],ts=>⟨rfl,λj c h=>by simp[bM]at h⟩
 |x::xs,t::ts=>by
  obtain⟨h1,h2⟩:=gM hle hs xs ts;refine⟨by simp[bM,h1],λj c hj=>?_⟩;cases j with
  |zero=>simp[bM]at hj;subst hj;exact⟨x,rfl,iG (hs.ev hle x)⟩
  |succ j=>simp[bM]at hj;simpa using h2 j c hj
 |x::xs,[]=>by
  obtain⟨h1,h2⟩:=gM hle hs xs [];refine⟨by simp[bM,h1],λj c hj=>?_⟩;cases j with
  |zero=>simp[bM]at hj;subst hj;exact⟨x,rfl,hs.ev hle x⟩
  |succ j=>simp[bM]at hj;simpa using h2 j c hj
theorem mP{w:World}{O L:Nat->Prop}{σ:Nat->Value}{f:AV}{g:FuncId}{xs ys:List AV}(h:callee f=some (g,xs,ys)){u:Value}(hr:au w O L σ f u) :
 ∃us vs,u= .func (.func g) us vs/\us.size=xs.length/\vs.size=ys.length/\(∀j c,xs[j]? =some c->au w O L σ c (us.getD j Go.undef))/\(∀j c,ys[j]? =some c->au w O L σ c (vs.getD j Go.undef)):=by
 unfold callee at h;split at h
 . rename_i g0 first caps
   cases h;cases hr with|d _ _ hr=>cases hr with|fn _ _ _ us vs hx hl h1 h2 _ =>
    refine⟨us,vs,rfl,by simpa using hx,by simpa using hl,λj c hj=>?_,λj c hj=>?_⟩
    . rw[aN]at hj;cases hd:first[j]? with
      |none=>rw[hd]at hj;cases hj
      |some y=>rw[hd]at hj;cases hj;exact .d _ _ (h1 j y hd)
    . rw[aN]at hj;cases hd:caps[j]? with
      |none=>rw[hd]at hj;cases hj
      |some y=>rw[hd]at hj;cases hj;exact .d _ _ (h2 j y hd)
 . cases h;cases hr with|fn f first caps us vs hx hl h1 h2=>exact⟨us,vs,rfl,hx,hl,h1,h2⟩
 . cases h
theorem Le{w w' :World}{O O' L L' :Nat->Prop}{σ σ' :Nat->Value}{c:AV}{v:Value}(h:au w O L σ c v)(hf:Ld c=true):au w' O' L' σ' c v:=by
 cases h <;> first|(rename_i h;exact .d _ _ (h.eL hf))|cases hf
theorem Bj{w w' :World}{O O' L L' :Nat->Prop}{σ σ' :Nat->Value}{c:AV}{v:Value}(h:au w O L σ c v)(hf:DG c=true):au w' O' L' σ' c v:=by
 cases h with
 |d x v h=>exact .d _ _ (h.flat hf)
 |agg cs vs hl hh=>exact .agg _ _ hl λj c hj=>Le (hh j c hj) (ay.1 hf c (ar hj))
 |_=>cases hf
theorem Bk{w w' :World}{O O' L L' :Nat->Prop}{σ σ' :Nat->Value}{c:AV}{v:Value}(h:au w O L σ c v)(hf:IK c=true):au w' O' L' σ' c v:=by
 cases c with
 |tuple vs =>
  cases h with|tuple _ us hl hh=>exact .tuple _ _ hl λj c hj=>Bj (hh j c hj) (ay.1 hf c (ar hj))
 |_=>exact Bj h hf
theorem jK{f g:AV->Option D}(h:∀c x,f c=some x->g c=some x):∀{l:List AV} {r:List D},bN f l=some r->bN g l=some r
 |[],r,e=>e
 |c::t,r,e=>by
  simp only[bN]at e ⊢;split at e
  . rename_i x xs h1 h2;rw[h _ _ h1,jK h h2];exact e
  . cases e
theorem zP{st' :St}(hle:st.le st')(c:AV)(x:D)(h:jJ st c=some x):jJ st' c=some x:=by
 cases c <;> try exact h
 case omap s =>
  simp only[jJ]at h ⊢;split at h
  . rename_i hf;rw[hle.heap _ _ hf];exact h
  . rename_i hf;rw[hle.heap _ _ hf];exact h
  . cases h
 simp only[jJ]at h ⊢;split at h
 . rename_i hf;rw[hle.heap _ _ hf];exact h
 . cases h
theorem jL{st' :St}(hle:st.le st')(c:AV)(x:D)(h:eY st c=some x):eY st' c=some x:=by
 cases c <;> simp only[eY]at h ⊢ <;> try exact zP hle _ x h
 split at h
 . rename_i hf;rw[hle.heap _ _ hf];dsimp only;split at h
   . rename_i h1;rw[jK (zP hle) h1];exact h
   . cases h
 . cases h
theorem Kj{st' :St}(hle:st.le st')(c:AV)(x:D)(h:nr st c=some x):nr st' c=some x:=by
 cases c <;> simp only[nr]at h ⊢ <;> try exact jL hle _ x h
 split at h
 . rename_i h1 h2;rw[jK (jL hle) h1,jK (jL hle) h2];exact h
 . cases h
theorem Ki{st' :St}(hle:st.le st')(c:AV)(x:D)(h:kE st c=some x):kE st' c=some x:=by
 cases c with
 |ptr s off =>
  have e:lL st' s off=lL st s off\/lL st s off=none/\eY st (.ptr s off)=none:=by
   unfold lL;cases hf:find st.heap s with
   |some b=>left;rw[hle.heap _ _ hf]
   |none =>
    right
    refine⟨by cases off <;> rfl,?_⟩;simp only[eY];rw[hf]
  simp only[kE]at h ⊢;rcases e with e|⟨e,e2⟩
  . rw[e];split at h
    . split at h
      . rename_i y hy;rw[Kj hle _ _ hy];exact h
      . cases h
    . exact jL hle _ x h
  . rw[e]at h;exact absurd (e2.symm.trans h) (by simp)
 |_=>(simp only[kE]at h ⊢;exact jL hle _ x h)
theorem zQ{st' :St}(hle:st.le st')(c:AV)(x:D)(h:iY st c=some x):iY st' c=some x:=by
 cases c <;> simp only[iY]at h ⊢ <;> try exact jL hle _ x h
 split at h
 . rename_i h1 h2;rw[jK (jL hle) h1,jK (Ki hle) h2];exact h
 . cases h
theorem Kh{st' :St}(hle:st.le st')(c:AV)(x:D)(h:fU st c=some x):fU st' c=some x:=by
 cases c <;> simp only[fU]at h ⊢ <;> try exact zQ hle _ x h
 split at h
 . rename_i h1;rw[jK (zQ hle) h1];exact h
 . cases h
theorem nk{xs ys zs:Array Value}{A B C:List AV}(h1:xs.size=A.length)(h2:ys.size=B.length){R:AV->Value->Prop}(r1:∀j c,A[j]? =some c->R c (xs.getD j Go.undef))
 (r2:∀j c,B[j]? =some c->R c (ys.getD j Go.undef)) (r3:∀j c,C[j]? =some c->R c (zs.getD j Go.undef)) (j:Nat) (c:AV) (h:(A++B++C)[j]? =some c):R c ((xs++ys++zs).getD j Go.undef):=by
 by_cases l1:j<A.length
 . rw[List.append_assoc,cq l1]at h;have:=r1 j c h
   rwa [show(xs++ys++zs).getD j Go.undef=xs.getD j Go.undef by simp[Array.getElem?_append,show j<xs.size+ys.size by omega,show j<xs.size by omega]]
 . by_cases l2:j<A.length+B.length
   . rw[cq (by simp;omega),bX (by omega)]at h;have:=r2 _ c h
     rwa [show(xs++ys++zs).getD j Go.undef=ys.getD (j-A.length) Go.undef by simp[Array.getElem?_append,show j<xs.size+ys.size by omega,h1,h2,show ¬j<A.length by omega,show j-A.length<B.length by omega]]
   . rw[bX (by simp;omega)]at h;have:=r3 _ c h
     rwa [show(xs++ys++zs).getD j Go.undef=zs.getD (j-(A++B).length) Go.undef by simp[Array.getElem?_append,show ¬j<xs.size+ys.size by omega,h1,h2,show ¬j<A.length by omega,show ¬j-A.length<B.length by omega,Nat.sub_sub]]
theorem SI{o:Oper}{c:Call}{f:Operand}(ho:o.op= .call c)(hc:c.callee= .value f)(h:fnK cx st (st.ev cx f) (bM cx st c.args.toList c.argTypes.toList) k):∃v bs,cr cx o st v bs/\k v bs:=by
 unfold fnK at h;split at h
 . rename_i g xs ys hg
   have enter : ∀ (E : Env) st' σ a w, st.le st' -> bq cx E st' σ a w -> ff cx.P g -> ∃ vals, (execOp a.eval o).run cx.P w = .ok (.enter g vals) w /\ vals.size = (xs ++ bM cx st c.args.toList c.argTypes.toList ++ ys).length /\
       ∀(j:Nat) cc,(xs++bM cx st c.args.toList c.argTypes.toList++ys)[j]? =some cc->au w E.O (live st'.heap) σ cc (vals.getD j Go.undef):=by
    intro E st' σ a w hle hs hcall;obtain⟨us,vs,hu,s1,s2,r1,r2⟩:=mP hg (hs.ev hle f);obtain⟨l1,l2⟩:=gM hle hs c.args.toList c.argTypes.toList;obtain⟨fn,hf1,hf2,hf3⟩:=hcall;refine⟨us++c.args.map a.eval++vs,?_,?_,nk s1 (by simp[l1]) r1 (λj cc hj=>?_) r2⟩
    . have hf2' :¬fn.name= "runtime.NumGoroutine" :=by simpa using hf2
      have hf3' :¬fn.body=none:=by intro e;rw[e]at hf3;cases hf3
      simp[execOp,ho,resolve,hc,hu,Deferred.ofValue,invoke,callFunc,hf1,hf2',hf3']
    . simp[s1,s2,l1]
    . obtain⟨x,hx,hr⟩:=l2 j cc hj;have:(c.args.map a.eval).getD j Go.undef=a.eval x:=by rw[aW]at hx;simp[hx]
      rw[this];exact hr
   split at h
   . unfold gq at h;split at h
     . rename_i s rest harg;split at h
       . rename_i cs ds hf hds;split at h
         . rename_i cells hcells;obtain⟨v,hFn,hk⟩:=h;refine⟨v,[],cr.CH (by rw[ho];simp[kQ,hc]) λE st' a w Q hle hd hfresh ⟨σ,hs⟩=>?_,hk⟩;obtain⟨vals,hrun,hsz,hall⟩:=enter E st' σ a w hle hs hFn.1;rw[harg]at hall hsz;have hf' :=hle.heap s _ hf;obtain⟨B,cur,t,e1,e2,e3,e4,e5⟩:=hs.holds.blk s _ hf';have hl:live st'.heap s:=ax.2 ⟨_,hf'⟩;have h0:vals.getD 0 Go.undef= .pointer (some ⟨B,0,none⟩):=by
            have:=hall 0 _ rfl;generalize vals.getD 0 Go.undef=u at this;cases this with|ptr _ _ b hL hσ=>rw[hσ]at e1;cases e1;rfl
           have hvals:vals= #[.pointer (some ⟨B,0,none⟩)]++vals.extract 1 vals.size:=by
            apply Array.ext
            . simp at hsz ⊢;omega
            . intro i h1 h2;rcases i with _|i
              . have:vals[0]=vals.getD 0 Go.undef:=by simp[h1]
                rw[this,h0];simp
              . simp[Array.getElem_append]
                congr 1;omega
           obtain⟨k1,k2⟩:=bQ hds;obtain⟨q1,q2⟩:=bQ hcells;have hcalls:=hFn.2 (Own E.O (live st'.heap) σ) w B cur t (vals.extract 1 vals.size) (λb hb=>hs.pf b hb) hs.mU (λg cells hgl=>hs.pC hgl) (.inr ⟨s,hl,by rw[e1];rfl⟩) e3 (by rw[e4,q1])
            (λj d hj=>by
             obtain⟨cc,hcc,hfr⟩:=q2 j d hj;have hcd:cc= .d d:=by cases cc <;> simp[Jq]at hfr;rw[hfr]
             subst hcd;refine⟨?_,?_⟩
             . rcases (e5 j _ hcc).1 with h1|h1
               . exact h1
               . cases h1
             . have:=(e5 j _ hcc).2;cases this with|d _ _ h=>exact h)
            (by simp at hsz ⊢;omega)
            (λj d hj=>by
             obtain⟨cc,hcc,hfa⟩:=k2 j d hj;have hr:=hall (j+1) cc (by simpa using hcc);have hlt:j+1<vals.size:=by rw[hsz];have:=(aq.1 hcc).1;simp;omega
             have:(vals.extract 1 vals.size).getD j Go.undef=vals.getD (j+1) Go.undef:=by
              simp[bp,Array.getElem?_extract,hlt,show j<vals.size-1 by omega,Nat.add_comm]
             rw[this];exact iC hfa hr)
           rw[<- hvals]at hcalls;simp only[Oper.wp,hrun,Oper.upon];refine hcalls.mono λen w' =>?_
           rintro⟨u,cur',t',rfl,p1,p2,p3,p4,p5,p6,p7,p8,p9⟩;dsimp only;have hk0:aU w' w' (Own (Own E.O (live st'.heap) σ) (λ_=>False) (λ_=>Value.nilFunc)) (Own E.O (live st'.heap) σ):=aU.less λb hb=> .inl hb
           refine⟨σ,hs.SP hd hl (by rw[e1];rfl) p1 p2 p3 p4 p5 (λb hb=>?_) (p9.mono hk0 λs h=>h.elim)⟩;rw[hf']at hb;cases hb;refine⟨B,cur',t',e1,e2,p6,by rw[p7,q1],λj c hj=>?_⟩;obtain⟨d,hd'⟩:∃d,cells[j]? =some d:=⟨_,aj (by rw[q1];exact(aq.1 hj).1)⟩
           obtain⟨cc,hcc,hfr⟩:=q2 j d hd';rw[hj]at hcc;cases hcc;have hcd:c= .d d:=by cases c <;> simp[Jq]at hfr;rw[hfr]
           subst hcd;exact⟨.inl (p8 j d hd').1,.d _ _ (p8 j d hd').2⟩
         . exact h.elim
       . exact h.elim
     . exact h.elim
   split at h
   . rename_i ds hds;obtain⟨v,bs,hFn,hk0⟩:=h;have hlow:sZ bs=true:=by
      cases hb:sZ bs with
      |true=>rfl
      |false=>rw[hb]at hk0;exact hk0.elim
     have hk:k v bs:=by rw[hlow]at hk0;exact hk0
     refine⟨v,bs,cr.CH (by rw[ho];simp[kQ,hc]) λE st' a w Q hle hd hfresh ⟨σ,hs⟩=>?_,hk⟩;obtain⟨vals,hrun,hsz,hrep⟩:=enter E st' σ a w hle hs hFn.1;obtain⟨l1,l2⟩:=bQ hds;have hcalls:=hFn.2 (Own E.O (live st'.heap) σ) w vals (λb hb=>hs.pf b hb) hs.mU (λg cells hgl=>hs.pC hgl) (hsz.trans l1.symm) (λj d hj=>by
      obtain⟨cc,hcc,hd⟩:=l2 j d hj;exact iC hd (hrep j cc hcc))
     simp only[Oper.wp,hrun,Oper.upon];refine hcalls.mono λe w' =>?_
     rintro⟨u,τ,rfl,hbel,hholds,hr⟩;dsimp only
     classical
     let σ' :Nat->Value:=λs=>if live bs s then τ s else σ s
     have e1:∀s,live bs s->σ' s=τ s:=λs hl=>if_pos hl
     have e2:∀s,live st'.heap s->σ' s=σ s:=λs hl=>if_neg λhb=>hfresh s hb hl
     have hkeep:aU w' w' (Own (Own E.O (live st'.heap) σ) (live bs) τ) (Own E.O (live (bs++st'.heap)) σ'):=aU.less λb hb=>by
      rcases hb with hb|⟨s,hl,e⟩
      . exact .inl (.inl hb)
      . rcases bW.1 hl with hl|hl
        . rw[e1 s hl]at e;exact .inr ⟨s,hl,e⟩
        . rw[e2 s hl]at e;exact .inl (.inr ⟨s,hl,e⟩)
     have hss:∀s,live bs s->live (bs++st'.heap) s/\σ' s=τ s:=λs hl=>⟨bW.2 (.inl hl),e1 s hl⟩
     refine⟨σ',hs.grow hd e2 hbel (λq0 B hB hl=>by have:=Aw hlow _ hl;have:=(hs.fix q0 B hB).1.2;omega) (λs b hl e=>?_) (λs s' b hl hl' e e' =>?_) (λs b hb=>?_) (hr.mono hkeep hss)⟩
     . rw[e1 s hl]at e;exact(hholds.home hl e).1
     . rw[e1 s hl]at e;rw[e1 s' hl']at e';exact hholds.inj s s' b hl hl' e e'
     . have hl:live bs s:=ax.2 ⟨b,hb⟩;have:=(hholds.blk s b hb).mono hkeep hss hl (λg _=>rfl);have hF:∀b,w.heap.size<=b->E.F b:=λb hb=>hs.new b (Nat.le_trans hs.frame.size hb)
       cases b with
       |box cells=>obtain⟨b,cur,t,q1,q2,q3⟩:=this;exact⟨b,cur,t,q1,hF _ q2,q3⟩
       |row e size rows fl=>obtain⟨xs,q1,q2,q3⟩:=this;exact⟨xs,q1,λb hb=>hF _ (q2 b hb),q3⟩
       |smap m=>obtain⟨b,es,cl,q1,q2,q3⟩:=this;exact⟨b,es,cl,q1,hF _ q2,q3⟩
       |kmap m=>obtain⟨b,es,cl,q1,q2,q3⟩:=this;exact⟨b,es,cl,q1,hF _ q2,q3⟩
       |arow e size rows=>obtain⟨b,cur,t,q1,q2,q3⟩:=this;exact⟨b,cur,t,q1,hF _ q2,q3⟩
       |tail e size rows=>exact⟨this.1,λb hb=>hF _ (this.2 b hb)⟩
       |iter left cur=>exact⟨this.1,λb hb=>hF _ (this.2 b hb)⟩
       |dg m=>obtain⟨b,es,cl,q1,q2,q3⟩:=this;exact⟨b,es,cl,q1,hF _ q2,q3⟩
   . split at h
     . rename_i ds hds;obtain⟨v,hFn,hflat,hk⟩:=h;refine⟨v,[],cr.CH (by rw[ho];simp[kQ,hc]) λE st' a w Q hle hd hfresh ⟨σ,hs⟩=>?_,hk⟩;obtain⟨vals,hrun,hsz,hrep⟩:=enter E st' σ a w hle hs hFn.1;rcases Bool.or_eq_true_iff.1 hflat with hflat|hlend
       case inr =>
        unfold yJ at hlend;split at hlend
        case h_2=>cases hlend
        rename_i ds' hds';have hdd:ds' =ds:=by
         have:=vt (λc y=>Gs) _ _ hds';rw[hds]at this;cases this;rfl
        subst hdd;obtain⟨l1,l2⟩:=bQ hds';have hcalls:=hFn.2 (λb=>Own E.O (live st'.heap) σ b/\ ¬pV st σ b) w vals (λb hb=>hs.pf b hb.1) hs.mU (λg cells hgl h=>hs.pC hgl h.1) (hsz.trans l1.symm) (λj d hj=>by
         obtain⟨cc,hcc,hd⟩:=l2 j d hj;exact Kg (λ_ _ h=>hle.heap _ _ h) hs.holds hd (hrep j cc hcc))
        simp only[Oper.wp,hrun,Oper.upon];refine hcalls.mono λe w' =>?_
        rintro⟨u,τ,rfl,hbel,hholds,hr⟩;dsimp only;refine⟨σ,hs.grow hd (λs _=>rfl) hbel (λq0 B hB hl=>by simp[live,find]at hl) (λs b hl=>by simp[live,find]at hl) (λs s' b hl=>by simp[live,find]at hl) (λs b hb=>by simp[find]at hb) (PV (λb hb hnb _=>?_) hr hlend)⟩;by_cases hl:pV st σ b
        . exact Jd (λ_ _ h=>hle.heap _ _ h) hs.holds hbel.block hl
        . exact absurd (.inl ⟨hb,hl⟩) hnb
       obtain⟨l1,l2⟩:=bQ hds;have hview:∀{c:AV} {x:D},fU st c=some x-> ∀{u:Value},au w E.O (live st'.heap) σ c u->Rep w (λ_=>False) x u:=λhv _ hr=>(vr hs.holds hs.apart (Kh hle _ _ hv) hr).mono (aU.less λb h=>h.elim)
       have hcalls:=hFn.2 (λ_=>False) w vals (λb hb=>hb.elim) hs.mU (λg cells hgl h=>h) (hsz.trans l1.symm) (λj d hj=>by
        obtain⟨cc,hcc,hd⟩:=l2 j d hj;exact hview hd (hrep j cc hcc))
       simp only[Oper.wp,hrun,Oper.upon];refine hcalls.mono λe w' =>?_
       rintro⟨u,τ,rfl,hbel,hholds,hr⟩;dsimp only;exact⟨σ,hs.grow hd (λs _=>rfl) hbel (λq0 B hB hl=>by simp[live,find]at hl) (λs b hl=>by simp[live,find]at hl) (λs s' b hl=>by simp[live,find]at hl) (λs b hb=>by simp[find]at hb) (Bk hr hflat)⟩
     . exact h.elim
 . exact h.elim
theorem qf(hT:ba cx){o:Oper}(h:opK cx o.dst o.type st o.op k):∃v bs,cr cx o st v bs/\k v bs:=by
 cases ho:o.op
 case move x=>rw[ho]at h;exact Hn (.inl ho) h
 case assign x=>rw[ho]at h;exact LQ ho h
 case pick c a b=>rw[ho]at h;exact QR ho h
 case alloc e=>rw[ho]at h;exact Oz hT ho h
 case box e x=>rw[ho]at h;exact Sb hT ho h
 case build t parts=>rw[ho]at h;exact OA hT ho h
 case buildSlice t len parts=>rw[ho]at h;exact Cb hT ho h
 case load t x=>rw[ho]at h;exact QQ hT ho h
 case nilCheck x=>rw[ho]at h;exact FX ho h
 case binOp op t x y ty =>
  rw[ho]at h;simp only[opK]at h;split at h
  . rename_i xa xb hst;obtain⟨hle0,h⟩:=h;unfold Mq at hst;split at hst
    . split at hst
      . rename_i sa sb e1 e2;cases hst;refine⟨_,[],cr.value λE st' σ a w hle hs=>?_,h⟩;have r1:=hs.ev hle x;have r2:=hs.ev hle y;rw[e1]at r1;rw[e2]at r2;have v1:∃b:ByteArray,a.eval x= .string b/\b.data.toList=xa:=by
         generalize a.eval x=u at r1
         cases r1 with|d _ _ hr=>cases hr;exact⟨_,rfl,by assumption⟩
        have v2:∃b:ByteArray,a.eval y= .string b/\b.data.toList=xb:=by
         generalize a.eval y=u at r2
         cases r2 with|d _ _ hr=>cases hr;exact⟨_,rfl,by assumption⟩
        obtain⟨b1,q1,l1⟩:=v1;obtain⟨b2,q2,l2⟩:=v2;have s1:b1.size=xa.length:=by rw[<- l1];exact(Array.length_toList (xs:=b1.data)).symm
        have s2:b2.size=xb.length:=by rw[<- l2];exact(Array.length_toList (xs:=b2.data)).symm
        refine⟨.string (b1++b2),?_,.d _ _ (.str _ _ (by rw[ByteArray.data_append,Array.toList_append,l1,l2]))⟩;have hadd:=run_string_add_sum (P:=cx.P) w b1 b2 (by rw[s1,s2];exact hle0);simp only[execOp,ho,q1,q2];simp[eqGuard,binOp,hadd]
      . cases hst
    . cases hst
  . exact jS (λρ=>do eqGuard op t x y (ρ x) (ρ y);binOp op t (ρ x) (ρ y)) (λρ=>by simp only[execOp,ho]) (λv hv E st' σ a w hle hs=>MZ hT hv (hs.ev hle x) (hs.ev hle y) x y) h
 case unOp op t x =>
  rw[ho]at h;exact jS (λρ=>Op.unary op (ρ x)) (λρ=>by simp only[execOp,ho]) (λv hv E st' σ a w hle hs=>Rh hv (hs.ev hle x)) h
 case convert src dst x =>
  rw[ho]at h;exact jS (λρ=>convert src dst (ρ x)) (λρ=>by simp only[execOp,ho]) (λv hv E st' σ a w hle hs=>KR hT hv (hs.ev hle x)) h
 case makeFunc fn first caps=>rw[ho]at h;exact FW ho h
 case makeMap t r=>rw[ho]at h;exact Jn hT ho h
 case makeSlice t l c=>rw[ho]at h;exact El hT ho h
 case slice t x lo hi mx =>
  rw[ho]at h;cases mx with
  |none=>exact ok_slice hT ho h
  |some _=>exact h.elim
 case fieldAddr s x f =>
  rw[ho]at h;exact jS (λρ=>Instr.fieldAt s (ρ x) f) (λρ=>by simp only[execOp,ho]) (λv hv E st' σ a w hle hs=>Al hT hv (hs.ev hle x)) h
 case field t x f =>
  rw[ho]at h;refine jS (λρ=>Instr.field t (ρ x) f) (λρ=>by simp only[execOp,ho]) (λv hv E st' σ a w hle hs=>?_) h;split at hv
  . rename_i r hr;obtain rfl:=mn hv;exact IH hT hr (hs.ev hle x)
  . cases hv
 case indexAddr t x i=>rw[ho]at h;exact Ek hT ho h
 case index t x i=>rw[ho]at h;exact OB hT ho h
 case lookup t x i ok=>rw[ho]at h;exact LR hT ho h
 case extract x i =>
  rw[ho]at h;refine jS (λρ=>Instr.extract (ρ x) i) (λρ=>by simp only[execOp,ho]) (λv hv E st' σ a w hle hs=>?_) h;split at hv
  . rename_i r hr;obtain rfl:=mn hv;exact Dy hr (hs.ev hle x)
  . cases hv
 case call c =>
  rw[ho]at h;simp only[opK,sD]at h;split at h
  . rename_i hc;split at h
    . rename_i x t ha ht;exact Sc hT ho hc ha ht h
    . exact h.elim
  . rename_i f hc;exact SI ho hc h
  . exact h.elim
 all_goals (rw[ho]at h;exact h.elim)
end
def iu(cx:Cx)(o:Oper)(st st1:St):Prop :=
 ∀(E:Env) a w (Q:Exit->Act->World->Prop),(∀e,o.dst=some e->e<E.nt)->Sim cx E st a w->o.wp cx.P a w (λa' w' =>Sim cx E st1 a' w') Q
def uF:List AV->(List AV->Prop)->Prop
 |[],k=>k []
 |c::t,k=>(match yV c with|some c' =>uF t λt' =>k (c' ::t')|none=>uF t λt' =>k (.undef::t'))
theorem uG:∀(l:List AV) (k:List AV->Prop),uF l k->k l
 |[],k,h=>h
 |c::t,k,h=>by
  simp only[uF]at h;split at h
  . rename_i c' hc;have:=uG t _ h;rw[th hc]at this;exact this
  . rename_i hc;have:=uG t _ h;have e:c= .undef:=by cases c <;> first|rfl|cases hc
    rw[e];exact this
section
variable {cx:Cx} {st:St} {E:Env} {σ:Nat->Value} {a:Act} {w:World}
theorem eG{h:List (Nat×Blk)}{s s' :Nat}{b:Blk}:find ((s,b)::h) s' =if s=s' then some b else find h s' :=by
 by_cases e:s=s'
 . subst e;rw[aP,if_pos rfl]
 . rw[aQ _ _ e,if_neg e]
theorem eI{h:List (Nat×Blk)}{s:Nat}{b:Blk}(hl:live h s)(x:Nat):live ((s,b)::h) x ↔ live h x:=by
 unfold live;rw[eG];by_cases e:s=x
 . subst e;simpa using (show(find h s).isSome=true from hl)
 . rw[if_neg e]
theorem eu{h:List (Nat×Blk)}{s:Nat}{b:Blk}(hl:live h s):live ((s,b)::h)=live h:=funext λx=>propext (eI hl x)
theorem bq.write(h:bq cx E st σ a w){s g:Nat}{b:Blk}{w' :World}{d:Option Nat}{v:AV}{u:Value}(hd:∀e,d=some e->e<E.nt)(hl:live st.heap s)(hg:home (σ s)=some g)
 (h1:w'.os=w.os) (h2:w'.tape=w.tape) (h3:w'.output=w.output) (h4:w'.heap.size=w.heap.size) (h5:∀k,k≠g->w'.heap[k]? =w.heap[k]?)
 (hb:aU w w' (Own E.O (live st.heap) σ) (Own E.O (live st.heap) σ)->cw w' E.F E.O (live st.heap) σ s b) (hr:∀w',au w' E.O (live st.heap) σ v u) :
 bq cx E ⟨bd st.slots d v,(s,b)::st.heap⟩ σ (a.put d u) w' :=by
 have hOwn:Own E.O (live st.heap) σ g:= .inr ⟨s,hl,hg⟩;have hk:aU w w' (Own E.O (live st.heap) σ) (Own E.O (live st.heap) σ):=⟨by omega,λx hx _=>h5 x λe=>hx (e ▸ hOwn),λ_ hx _=>hx⟩
 have hs:∀s,live st.heap s->live st.heap s/\σ s=σ s:=λs h=>⟨h,rfl⟩
 have hget:∀t,(St.mk (bd st.slots d v) ((s,b)::st.heap)).get t=if d=some t then v else st.get t:=λt=>St.eV st d v [] t
 refine⟨⟨h1.trans h.frame.os,h2.trans h.frame.tape,h3.trans h.frame.output,by rw[h4];exact h.frame.size,λx hx=>?_⟩,h.new,h.apart,?_,?_,λt=>?_,⟨λs' b' hb' =>?_,?_⟩,h.glob,h.globF,λq0 B hB=>⟨(h.fix q0 B hB).1,λhl' =>(h.fix q0 B hB).2 ((eI hl _).1 hl')⟩⟩
 . rw[h5 x λe=>hx (e ▸ (h.holds.home hl hg).1)];exact h.frame.block x hx
 . cases d <;> exact h.defers
 . cases d <;> simp[Act.put,h.nt]
 . rw[hget,gV (by rw[h.nt];exact hd)];show au w' E.O (live ((s,b)::st.heap)) σ _ _
   rw[eu hl];by_cases e:d=some t
   . rw[if_pos e,if_pos e];exact hr w'
   . rw[if_neg e,if_neg e];exact(h.slots t).mono hk hs
 . show cw w' E.F E.O (live ((s,b)::st.heap)) σ s' b'
   rw[eu hl];have hb'' :find ((s,b)::st.heap) s' =some b' :=hb';rw[eG]at hb'';split at hb''
   . rename_i e;subst e;cases hb'';exact hb hk
   . rename_i e;have hl' :live st.heap s' :=ax.2 ⟨b',hb''⟩;exact(h.holds.blk s' b' hb'').mono hk hs hl' λx hx=>h5 x λe' =>e (h.holds.inj s s' g hl hl' hg (e' ▸ hx))
 . exact λs1 s2 x l1 l2=>h.holds.inj s1 s2 x ((eI hl s1).1 l1) ((eI hl s2).1 l2)
theorem bq.MD(h:bq cx E st σ a w){s g:Nat}{b:Blk}{w' :World}{d:Option Nat}{v:AV}{u:Value}(hd:∀e,d=some e->e<E.nt)(hl:live st.heap s)(hg:home (σ s)=some g)
 (h1:w'.os=w.os) (h2:w'.tape=w.tape) (h3:w'.output=w.output) (h4:w.heap.size<=w'.heap.size) (h5:∀k,k<w.heap.size->k≠g->w'.heap[k]? =w.heap[k]?)
 (hb:aU w w' (Own E.O (live st.heap) σ) (Own E.O (live st.heap) σ)->cw w' E.F E.O (live st.heap) σ s b) (hr:au w' E.O (live st.heap) σ v u) :
 bq cx E ⟨bd st.slots d v,(s,b)::st.heap⟩ σ (a.put d u) w' :=by
 have hOwn:Own E.O (live st.heap) σ g:= .inr ⟨s,hl,hg⟩;have hk:aU w w' (Own E.O (live st.heap) σ) (Own E.O (live st.heap) σ):=⟨h4,λx hx hlt=>h5 x hlt λe=>hx (e ▸ hOwn),λ_ hx _=>hx⟩
 have hs:∀s,live st.heap s->live st.heap s/\σ s=σ s:=λs h=>⟨h,rfl⟩
 have hget:∀t,(St.mk (bd st.slots d v) ((s,b)::st.heap)).get t=if d=some t then v else st.get t:=λt=>St.eV st d v [] t
 refine⟨⟨h1.trans h.frame.os,h2.trans h.frame.tape,h3.trans h.frame.output,Nat.le_trans h.frame.size h4,λx hx=>?_⟩,h.new,h.apart,?_,?_,λt=>?_,⟨λs' b' hb' =>?_,?_⟩,h.glob,h.globF,λq0 B hB=>⟨(h.fix q0 B hB).1,λhl' =>(h.fix q0 B hB).2 ((eI hl _).1 hl')⟩⟩
 . have hlt:x<w.heap.size:=by
    rcases Nat.lt_or_ge x w.heap.size with hlt|hge
    . exact hlt
    . exact absurd (h.new x (Nat.le_trans h.frame.size hge)) hx
   rw[h5 x hlt λe=>hx (e ▸ (h.holds.home hl hg).1)];exact h.frame.block x hx
 . cases d <;> exact h.defers
 . cases d <;> simp[Act.put,h.nt]
 . rw[hget,gV (by rw[h.nt];exact hd)];show au w' E.O (live ((s,b)::st.heap)) σ _ _
   rw[eu hl];by_cases e:d=some t
   . rw[if_pos e,if_pos e];exact hr
   . rw[if_neg e,if_neg e];exact(h.slots t).mono hk hs
 . show cw w' E.F E.O (live ((s,b)::st.heap)) σ s' b'
   rw[eu hl];have hb'' :find ((s,b)::st.heap) s' =some b' :=hb';rw[eG]at hb'';split at hb''
   . rename_i e;subst e;cases hb'';exact hb hk
   . rename_i e;have hl' :live st.heap s' :=ax.2 ⟨b',hb''⟩;exact(h.holds.blk s' b' hb'').mono hk hs hl' λx hx=>h5 x (h.holds.home hl' hx).2 λe' =>e (h.holds.inj s s' g hl hl' hg (e' ▸ hx))
 . exact λs1 s2 x l1 l2=>h.holds.inj s1 s2 x ((eI hl s1).1 l1) ((eI hl s2).1 l2)
theorem bq.Fl(h:bq cx E st σ a w){s:Nat}{b:Blk}{w' :World}{d:Option Nat}{v:AV}{u:Value}(hd:∀e,d=some e->e<E.nt)(hl:live st.heap s)
 (h1:w'.os=w.os) (h2:w'.tape=w.tape) (h3:w'.output=w.output) (h4:w.heap.size<=w'.heap.size) (h5:∀k,k<w.heap.size->home (σ s)≠some k->w'.heap[k]? =w.heap[k]?)
 (hb:aU w w' (Own E.O (live st.heap) σ) (Own E.O (live st.heap) σ)->cw w' E.F E.O (live st.heap) σ s b) (hr:au w' E.O (live st.heap) σ v u) :
 bq cx E ⟨bd st.slots d v,(s,b)::st.heap⟩ σ (a.put d u) w' :=by
 have hk:aU w w' (Own E.O (live st.heap) σ) (Own E.O (live st.heap) σ):=⟨h4,λx hx hlt=>h5 x hlt λe=>hx (.inr ⟨s,hl,e⟩),λ_ hx _=>hx⟩
 have hs:∀s,live st.heap s->live st.heap s/\σ s=σ s:=λs h=>⟨h,rfl⟩
 have hget:∀t,(St.mk (bd st.slots d v) ((s,b)::st.heap)).get t=if d=some t then v else st.get t:=λt=>St.eV st d v [] t
 refine⟨⟨h1.trans h.frame.os,h2.trans h.frame.tape,h3.trans h.frame.output,Nat.le_trans h.frame.size h4,λx hx=>?_⟩,h.new,h.apart,?_,?_,λt=>?_,⟨λs' b' hb' =>?_,?_⟩,h.glob,h.globF,λq0 B hB=>⟨(h.fix q0 B hB).1,λhl' =>(h.fix q0 B hB).2 ((eI hl _).1 hl')⟩⟩
 . have hlt:x<w.heap.size:=by
    rcases Nat.lt_or_ge x w.heap.size with hlt|hge
    . exact hlt
    . exact absurd (h.new x (Nat.le_trans h.frame.size hge)) hx
   rw[h5 x hlt λe=>hx (h.holds.home hl e).1];exact h.frame.block x hx
 . cases d <;> exact h.defers
 . cases d <;> simp[Act.put,h.nt]
 . rw[hget,gV (by rw[h.nt];exact hd)];show au w' E.O (live ((s,b)::st.heap)) σ _ _
   rw[eu hl];by_cases e:d=some t
   . rw[if_pos e,if_pos e];exact hr
   . rw[if_neg e,if_neg e];exact(h.slots t).mono hk hs
 . show cw w' E.F E.O (live ((s,b)::st.heap)) σ s' b'
   rw[eu hl];have hb'' :find ((s,b)::st.heap) s' =some b' :=hb';rw[eG]at hb'';split at hb''
   . rename_i e;subst e;cases hb'';exact hb hk
   . rename_i e;have hl' :live st.heap s' :=ax.2 ⟨b',hb''⟩;exact(h.holds.blk s' b' hb'').mono hk hs hl' λx hx=>h5 x (h.holds.home hl' hx).2 λe' =>e (h.holds.inj s s' x hl hl' e' hx)
 . exact λs1 s2 x l1 l2=>h.holds.inj s1 s2 x ((eI hl s1).1 l1) ((eI hl s2).1 l2)
def vU(cells:List D)(off:Nat)(cs:List D):List D:=cells.take off++cs++cells.drop (off+cs.length)
theorem LS{cells cs:List D}{off:Nat}(h:off+cs.length<=cells.length)(j:Nat):(vU cells off cs)[j]? =if off<=j/\j<off+cs.length then cs[j-off]? else cells[j]? :=by
 unfold vU;have hto:(cells.take off).length=off:=by simp;omega
 by_cases h1:j<off
 . rw[if_neg (by omega),List.append_assoc,cq (by omega),List.getElem?_take,if_pos h1]
 . by_cases h2:j<off+cs.length
   . rw[if_pos ⟨by omega,h2⟩,List.append_assoc,bX (by omega),hto,cq (by omega)]
   . rw[if_neg (by omega),bX (by simp;omega),List.getElem?_drop]
     congr 1;simp;omega
def ER(cx:Cx)(st:St)(t:TypeId)(ad v:AV)(k:List (Nat×Blk)->Prop):Prop :=
 match cx.ty t,cellsOf (iF cx t v)with
 |some ti,some cs0=>(match tj cs0 with
  |some cs=>(match Nat.beq cs.length ti.size,cs.all AV.one with
   |true,true=>(match ad with
    | .ptr s off=>(match find st.heap s with
     |some (.box cells)=>(match Nat.ble (off+cs.length) cells.length with
      |true=>uF (over cells off cs) λcells' =>k ((s,.box cells')::st.heap)
      |false=>False)
     |_=>False)
    | .rptr s sz i off=>(match find st.heap s,bN ll cs with
     |some (.row e sz' rows fl),some ds=>(match Nat.beq sz' sz,Nat.ble (off+ds.length) sz,ds.all AF with
      |true,true,true=> ∃row,rows[i]? =some row/\k ((s,.row e sz' (rows.set i (vU row off ds)) fl)::st.heap)
      |_,_,_=>False)
     |_,_=>False)
    |_=>False)
   |_,_=>False)
  |none=>False)
 |_,_=>False
theorem Ep{cur:Array Value}{off:Nat}{us:List Value}(h:off+us.length<=cur.size)(j:Nat) :
 (cur.toList.take off++us++cur.toList.drop (off+us.length)).toArray.getD j Go.undef=if off<=j/\j<off+us.length then us.getD (j-off) Go.undef else cur.getD j Go.undef:=by
 have hto:(cur.toList.take off).length=off:=by simp;omega
 simp only[bp,List.getElem?_toArray];by_cases h1:j<off
 . rw[if_neg (by omega),List.append_assoc,cq (by omega),List.getElem?_take,if_pos h1];simp
 . by_cases h2:j<off+us.length
   . rw[if_pos ⟨by omega,h2⟩,List.append_assoc,bX (by omega),hto,cq (by omega)];simp[List.getD]
   . rw[if_neg (by omega),bX (by simp;omega),List.getElem?_drop];have:off+us.length+(j-(List.take off cur.toList++us).length)=j:=by simp;omega
     rw[this];simp
theorem OY(hT:ba cx){o:Oper}{t:TypeId}{ad v:Operand}(ho:o.op= .store t ad v){k:List (Nat×Blk)->Prop}(h:ER cx st t (st.ev cx ad) (st.ev cx v) k) :
 ∃hp,iu cx o st ⟨bd st.slots o.dst (.tuple []),hp⟩/\k hp:=by
 unfold ER at h;split at h
 . rename_i ti cs0 hti hcs;split at h
   . rename_i cs hn;obtain rfl:=qc hn;split at h
     . rename_i hsz hone;have hsz:cs.length=ti.size:=aO hsz;have hrt:∀{w:World} {O L:Nat->Prop} {σ:Nat->Value},au w O L σ (.tuple []) Go.undef:= .tuple [] #[] rfl λj c hj=>by simp at hj
       split at h
       . rename_i s off had;split at h
         . rename_i cells hf;split at h
           . rename_i hle;have hle:off+cs.length<=cells.length:=ag hle;refine⟨_,λE a w Q hd ⟨σ,hs⟩=>?_,uG _ _ h⟩;have hra:=hs.ev (St.le.refl st) ad;rw[had]at hra;have hrv:=iG (cx:=cx) (t:=t) (hs.ev (St.le.refl st) v);obtain⟨k1,k2⟩:=iP hcs hs.one hrv;obtain⟨r1,r2⟩:=cZ (w:=w) hT hti;obtain⟨g,cur,tt,e1,e2,e3,e4,e5⟩:=hs.holds.blk s _ hf;have hl:live st.heap s:=ax.2 ⟨_,hf⟩;generalize hua:a.eval ad=ua at hra;cases hra with|ptr _ _ _ hL hσ =>
              rw[hσ]at e1;cases e1;have hcells:∀u∈(a.eval v).cells.toList,u.oneCell' =true:=λu hu=>by
               obtain⟨j,hj,rfl⟩:=List.getElem_of_mem hu;have hj' :j<cs.length:=by simpa [k1] using hj
               have:=k2 j _ (aj hj');have h1:=au.im hs.one this (ay.1 hone _ (List.getElem_mem hj'));have hj2:j<(a.eval v).cells.size:=by simpa using hj
               simpa [hj2] using h1
              have hst:=run_storeCells_at (P:=cx.P) g off tt (a.eval v).cells.toList 0 cur w e3 (by simp;omega) hcells;simp only[Nat.add_zero]at hst;have hrun:(execOp a.eval o).run cx.P w= .ok .skip (w.setRow g (cur.toList.take off++(a.eval v).cells.toList++cur.toList.drop (off+(a.eval v).cells.toList.length)).toArray):=by
               simp only[execOp,ho,Instr.storeAt,hua];simp[Instr.sureAddr,storeVar,r2,k1,hsz,hst]
              simp only[Oper.wp,hrun,Oper.upon];refine⟨σ,hs.write hd hl (by rw[hσ];rfl) rfl rfl rfl (by simp) (λx hx=>setRow_other w g x _ hx) (λhk=>?_) (λ_=>hrt)⟩;refine⟨g,_,tt,hσ,e2,setRow_heap w g cur _ tt _ e3,?_,λj c hj=>?_⟩
              . rw[wN hle, <- e4];simp;omega
              . rw[Er hle]at hj;have hlen:(a.eval v).cells.toList.length=cs.length:=by simpa using k1
                have hva:(cur.toList.take off++(a.eval v).cells.toList++cur.toList.drop (off+(a.eval v).cells.toList.length)).toArray.getD j Go.undef=if off<=j/\j<off+cs.length then(a.eval v).cells.toList.getD (j-off) Go.undef else cur.getD j Go.undef:=by
                 rw[Ep (by rw[hlen];omega),hlen]
                rw[hva];have hss:∀s,live st.heap s->live st.heap s/\σ s=σ s:=λs h=>⟨h,rfl⟩
                split at hj
                . rename_i hin;rw[if_pos hin];refine⟨.inl (ay.1 hone c (ar hj)),?_⟩;have:=(k2 _ c hj).mono hk hss
                  rwa [show(a.eval v).cells.toList.getD (j-off) Go.undef=(a.eval v).cells.getD (j-off) Go.undef by simp[List.getD]]
                . rename_i hin;rw[if_neg hin];exact⟨(e5 j c hj).1,(e5 j c hj).2.mono hk hss⟩
           . exact h.elim
         . exact h.elim
       . rename_i s sz i off had;split at h
         . rename_i e sz' rows fl ds hf hds;split at h
           . rename_i b1 b2 b3;obtain rfl:sz' =sz:=aO b1;have b2:off+ds.length<=sz' :=ag b2;obtain⟨row,hrow,h⟩:=h;refine⟨_,λE a w Q hd ⟨σ,hs⟩=>?_,h⟩;have hra:=hs.ev (St.le.refl st) ad;rw[had]at hra;have hrv:=iG (cx:=cx) (t:=t) (hs.ev (St.le.refl st) v);obtain⟨k1,k2⟩:=iP hcs hs.one hrv;obtain⟨r1,r2⟩:=cZ (w:=w) hT hti;obtain⟨l1,l2⟩:=bQ hds;obtain⟨xs,o1,o2,o3,o4,o5⟩:=hs.holds.blk s _ hf;have hl:live st.heap s:=ax.2 ⟨_,hf⟩;have hilt:i<rows.length:=(aq.1 hrow).1;have hrl:=(o4 row (ar hrow)).1;generalize hua:a.eval ad=ua at hra;cases hra with|rptr _ _ _ _ g' n' cap' o0 hL hσ =>
              rcases o1.2 with ⟨q1,_⟩|⟨g,cap,cur,q1,_,q3,q4,q5,q6,q7⟩
              . rw[hσ]at q1;cases q1
              . rw[hσ]at q1;cases q1;have hlen:(a.eval v).cells.toList.length=ds.length:=by rw[Array.length_toList,k1,l1]
                have hcells:∀u∈(a.eval v).cells.toList,u.oneCell' =true:=λu hu=>by
                 obtain⟨j,hj,rfl⟩:=List.getElem_of_mem hu;have hj' :j<cs.length:=by simpa [k1] using hj
                 have:=k2 j _ (aj hj');have h1:=au.im hs.one this (ay.1 hone _ (List.getElem_mem hj'));have hj2:j<(a.eval v).cells.size:=by simpa using hj
                 simpa [hj2] using h1
                have hroom:i*sz' +off+ds.length<=rows.length*sz' :=by
                 have:(i+1)*sz' <=rows.length*sz' :=Nat.mul_le_mul_right _ hilt;rw[Nat.add_mul]at this;omega
                have hcap:rows.length*sz' <=cap' *sz' :=Nat.mul_le_mul_right _ q4;have hst:=run_storeCells_at (P:=cx.P) g' (i*sz' +off) e (a.eval v).cells.toList 0 cur w q3 (by rw[hlen];omega) hcells;simp only[Nat.add_zero]at hst;have hrun:(execOp a.eval o).run cx.P w= .ok .skip (w.setRow g' (cur.toList.take (i*sz' +off)++(a.eval v).cells.toList++cur.toList.drop (i*sz' +off+(a.eval v).cells.toList.length)).toArray):=by
                 simp only[execOp,ho,Instr.storeAt,hua];simp[Instr.sureAddr,storeVar,r2,k1,hsz,hst]
                simp only[Oper.wp,hrun,Oper.upon];refine⟨σ,hs.write hd hl (by rw[hσ];rfl) rfl rfl rfl (by simp) (λx hx=>setRow_other w g' x _ hx) (λhk=>?_) (λ_=>hrt)⟩;have hgetc:∀q,q<cap' *sz' ->(cur.toList.take (i*sz' +off)++(a.eval v).cells.toList++cur.toList.drop (i*sz' +off+(a.eval v).cells.toList.length))[q]? =some (if i*sz' +off<=q/\q<i*sz' +off+ds.length then(a.eval v).cells.getD (q-(i*sz' +off)) Go.undef else cur.getD q Go.undef):=λq hq=>by
                 have:=Ep (cur:=cur) (off:=i*sz' +off) (us:=(a.eval v).cells.toList) (by rw[hlen];omega) q;rw[hlen]at this ⊢;have hlt:q<(cur.toList.take (i*sz' +off)++(a.eval v).cells.toList++cur.toList.drop (i*sz' +off+ds.length)).length:=by simp[k1, <- l1];omega
                 rw[aj hlt]
                 congr 1
                 simp only[bp,List.getElem?_toArray,aj hlt,Option.getD_some]at this;rw[this];simp[List.getD]
                refine⟨(cur.toList.take (i*sz' +off)++(a.eval v).cells.toList++cur.toList.drop (i*sz' +off+(a.eval v).cells.toList.length)).take (rows.length*sz'),⟨?_,.inr ⟨g',cap',_,?_,Nat.zero_le _,setRow_heap w g' cur _ e _ q3,?_,q5,?_,?_⟩⟩,o2,⟨o3.1,λe=>by rw[List.length_set];exact o3.2 e⟩,?_,λi' r' j d hi hj=>?_⟩
                . simp[k1, <- l1,q6];omega
                . rw[hσ];simp
                . simpa using q4
                . simp[k1, <- l1,q6];omega
                . simp
                . intro r hr;rcases List.mem_or_eq_of_mem_set hr with hr|rfl
                  . exact o4 r hr
                  . refine⟨by unfold vU;simp;omega,λx hx=>?_⟩;unfold vU at hx;simp only[List.mem_append]at hx;rcases hx with (hx|hx)|hx
                    . exact(o4 row (ar hrow)).2 x (List.mem_of_mem_take hx)
                    . exact ay.1 b3 x hx
                    . exact(o4 row (ar hrow)).2 x (List.mem_of_mem_drop hx)
                . have hi'lt:i' <rows.length:=by have:=(aq.1 hi).1;simpa using this
                  have hss:∀s,live st.heap s->live st.heap s/\σ s=σ s:=λs h=>⟨h,rfl⟩
                  have old:∀r j d,rows[i']? =some r->r[j]? =some d->j<sz' ->Rep w (Own E.O (live st.heap) σ) d (cur.getD (i' *sz' +j) Go.undef):=λr j d hr hj hjl=>by
                   obtain⟨u,hu,hd⟩:=o5 i' r j d hr hj;rw[<- q7,List.getElem?_take]at hu;split at hu
                   . have:cur.getD (i' *sz' +j) Go.undef=u:=by rw[aW]at hu;simp[hu]
                     rw[this];exact hd
                   . cases hu
                  have hjl:j<sz' :=by
                   rw[List.getElem?_set]at hi;split at hi
                   . try rw[if_pos (by omega)]at hi
                     cases hi;have:=(aq.1 hj).1;unfold vU at this;simp at this;omega
                   . have:=(aq.1 hj).1;rw[(o4 r' (ar hi)).1]at this;exact this
                  have hq:i' *sz' +j<rows.length*sz' :=by
                   have:(i' +1)*sz' <=rows.length*sz' :=Nat.mul_le_mul_right _ hi'lt;rw[Nat.add_mul]at this;omega
                  refine⟨_,by rw[List.getElem?_take,if_pos hq];exact hgetc _ (by omega),?_⟩;rw[List.getElem?_set]at hi;split at hi
                  . rename_i e;subst e
                    try rw[if_pos (by omega)]at hi
                    cases hi;rw[LS (by omega)]at hj;split at hj
                    . rename_i hin;rw[if_pos (by omega)];obtain⟨c,hc,hd⟩:=l2 _ d hj;have:=oo hd (k2 _ c hc);rw[show i*sz' +j-(i*sz' +off)=j-off by omega];exact this.mono hk
                    . rename_i hin;rw[if_neg (by omega)];exact(old row j d hrow hj hjl).mono hk
                  . rename_i hne;have hdis:¬(i*sz' +off<=i' *sz' +j/\i' *sz' +j<i*sz' +off+ds.length):=by
                     intro ⟨x1,x2⟩;rcases Nat.lt_or_ge i i' with hlt|hge
                     . have:(i+1)*sz' <=i' *sz' :=Nat.mul_le_mul_right _ hlt;rw[Nat.add_mul]at this;omega
                     . have hlt:i' <i:=by omega
                       have:(i' +1)*sz' <=i*sz' :=Nat.mul_le_mul_right _ hlt;rw[Nat.add_mul]at this;omega
                    rw[if_neg hdis];exact(old r' j d hi hj hjl).mono hk
           . exact h.elim
         . exact h.elim
       . exact h.elim
     . exact h.elim
   . exact h.elim
 . exact h.elim
end
def gA(s:Nat):AV->AV
 | .own s' =>(match Nat.beq s s' with|true=> .undef|false=> .own s')
 | .rptr s' a b c=>(match Nat.beq s s' with|true=> .undef|false=> .rptr s' a b c)
 | .tl s' a b=>(match Nat.beq s s' with|true=> .undef|false=> .tl s' a b)
 | .ptr s' o=>(match Nat.beq s s' with|true=> .undef|false=> .ptr s' o)
 | .omap s' =>(match Nat.beq s s' with|true=> .undef|false=> .omap s')
 | .d x=> .d x
 | .nil z=> .nil z
 |_=> .undef
def tw(s:Nat):AV->AV
 | .agg cs=> .agg (cs.map (gA s))
 | .fn f a b=> .fn f (a.map (gA s)) (b.map (gA s))
 | .tuple []=> .tuple []
 |v=>gA s v
def Sh(s:Nat):Blk->Blk
 | .box cells=> .box (cells.map (gA s))
 | .arow e z rows=> .arow e z (rows.map λr=>r.map (tw s))
 | .dg m=> .dg (m.map λp=>(p.1,gA s p.2))
 |b=>b
def gC(s:Nat):List (Nat×AV)->List (Nat×AV):=λl=>l.map λp=>(p.1,tw s p.2)
def dM(s:Nat):List (Nat×Blk)->List (Nat×Blk):=λl=>l.map λp=>(p.1,Sh s p.2)
theorem kM{α β:Type}(f:α->β):∀(l:List (Nat×α)) (i:Nat),find (l.map λp=>(p.1,f p.2)) i=(find l i).map f
 |[],i=>rfl
 |(k,x)::t,i=>by
  by_cases h:k=i
  . subst h;rw[List.map_cons,aP,aP];rfl
  . rw[List.map_cons,aQ _ _ h,aQ _ _ h,kM f t i]
section
variable {w:World} {O L:Nat->Prop} {σ:Nat->Value} {s:Nat}
theorem rC{s s' :Nat}(h:Nat.beq s s' =false):s' ≠s:=λe=>by subst e;simp at h
theorem xH:∀b,Own (λb=>O b\/(L s/\home (σ s)=some b)) (λx=>L x/\x≠s) σ b ↔ Own O L σ b:=λb=>by
 constructor
 . rintro((h|⟨h,e⟩)|⟨x,⟨h,_⟩,e⟩)
   . exact .inl h
   . exact .inr ⟨s,h,e⟩
   . exact .inr ⟨x,h,e⟩
 . rintro(h|⟨x,h,e⟩)
   . exact .inl (.inl h)
   . by_cases hx:x=s
     . subst hx;exact .inl (.inr ⟨h,e⟩)
     . exact .inr ⟨x,⟨h,hx⟩,e⟩
theorem gJ{c:AV}{v:Value}(h:au w O L σ c v):au w (λb=>O b\/(L s/\home (σ s)=some b)) (λx=>L x/\x≠s) σ (gA s c) v:=by
 cases h with
 |undef=>exact .undef _
 |d x v h=>exact .d _ _ (h.mono (aU.less λb hb=>(xH b).1 hb))
 |nil=>exact .nil _
 |ptr s' off b hL h=>simp only[gA];split;exact .undef _;rename_i e;exact .ptr _ _ b ⟨hL,rC e⟩ h
 |own s' hL=>simp only[gA];split;exact .undef _;rename_i e;exact .own _ ⟨hL,rC e⟩
 |rptr s' size i off b n cap o0 hL h=>simp only[gA];split;exact .undef _;rename_i e;exact .rptr _ _ _ _ b n cap o0 ⟨hL,rC e⟩ h
 |tl s' size i b n cap o0 hL h=>simp only[gA];split;exact .undef _;rename_i e;exact .tl _ _ _ b n cap o0 ⟨hL,rC e⟩ h
 |omap s' hL=>simp only[gA];split;exact .undef _;rename_i e;exact .omap _ ⟨hL,rC e⟩
 |maybe=>exact .undef _
 |agg=>exact .undef _
 |tuple=>exact .undef _
 |fn=>exact .undef _
theorem vP{cs:List AV}{vs:Array Value}(h:∀j c,cs[j]? =some c->au w O L σ c (vs.getD j Go.undef))(j:Nat)(c:AV)(hj:(cs.map (gA s))[j]? =some c) :
 au w (λb=>O b\/(L s/\home (σ s)=some b)) (λx=>L x/\x≠s) σ c (vs.getD j Go.undef):=by
 rw[aN]at hj;cases hc:cs[j]? with
 |none=>rw[hc]at hj;cases hj
 |some y=>rw[hc]at hj;cases hj;exact gJ (h j y hc)
theorem BA{c:AV}{v:Value}(h:au w O L σ c v):au w (λb=>O b\/(L s/\home (σ s)=some b)) (λx=>L x/\x≠s) σ (tw s c) v:=by
 cases h with
 |agg cs vs hl hh=>exact .agg _ _ (by simpa using hl) (vP hh)
 |fn f first caps xs vs hx hl h1 h2=>exact .fn _ _ _ _ _ (by simpa using hx) (by simpa using hl) (vP h1) (vP h2)
 |tuple cs vs hl hh =>
  cases cs with
  |nil=>exact .tuple [] vs hl λj c hj=>by simp at hj
  |cons=>exact .undef _
 |undef=>exact .undef _
 |d x v h=>exact gJ (.d x v h)
 |nil=>exact .nil _
 |ptr s' off b hL h=>exact gJ (.ptr s' off b hL h)
 |own s' hL=>exact gJ (.own s' hL)
 |rptr s' size i off b n cap o0 hL h=>exact gJ (.rptr s' size i off b n cap o0 hL h)
 |tl s' size i b n cap o0 hL h=>exact gJ (.tl s' size i b n cap o0 hL h)
 |omap s' hL=>exact gJ (.omap s' hL)
 |maybe p b h=>exact gJ (.maybe p b h)
theorem zl{c:AV}(h:c.one=true\/c= .undef):(gA s c).one=true\/gA s c= .undef:=by
 rcases h with h|rfl
 . cases c <;> simp only[gA] <;> first|exact .inl h|exact .inr rfl|exact .inr trivial|(split <;> first|exact .inr rfl|exact .inl rfl)
 . exact .inr rfl
theorem LZ{c:AV}(h:c.one=true\/c= .undef):(tw s c).one=true\/tw s c= .undef:=by
 cases c with
 |agg=>rcases h with h|h <;> cases h
 |tuple=>rcases h with h|h <;> cases h
 |fn=>exact .inl rfl
 |_=>exact zl (s:=s) h
end
section
variable {cx:Cx} {st:St} {E:Env} {σ:Nat->Value} {a:Act} {w:World}
theorem Li{slots:List (Nat×AV)}{h h' :List (Nat×Blk)}(s t:Nat):(St.mk (gC s slots) h).get t=tw s ((St.mk slots h').get t):=by
 simp only[St.get,gC,kM];cases find slots t <;> rfl
theorem yM{h:List (Nat×Blk)}{s:Nat}:live (dM s h)=live h:=funext λx=>by
 simp only[live,dM,kM];cases find h x <;> rfl
theorem bq.PN(h:bq cx E st σ a w){s:Nat}{b:Blk}{w' :World}{d:Option Nat}{u τ:Value}{v:AV}(hd:∀e,d=some e->e<E.nt)(hl:live st.heap s)(hrow:∀x,σ s≠ .pointer x)
 (h1:w'.os=w.os) (h2:w'.tape=w.tape) (h3:w'.output=w.output) (h4:w.heap.size<=w'.heap.size) (h5:∀k,k<w.heap.size->home (σ s)≠some k->w'.heap[k]? =w.heap[k]?)
 (hτ:∀g,home τ=some g->home (σ s)=some g\/w.heap.size<=g)
 (hb:∀σ' :Nat->Value,σ' s=τ->(∀x,x≠s->σ' x=σ x)->aU w w' (Own E.O (live st.heap) σ) (Own E.O (live st.heap) σ')->cw w' E.F E.O (live st.heap) σ' s b)
 (hr:∀σ' :Nat->Value,σ' s=τ->au w' E.O (live st.heap) σ' v u) :
 ∃σ',bq cx E ⟨bd (gC s st.slots) d v,(s,b)::dM s st.heap⟩ σ' (a.put d u) w' :=by
 let σ' :Nat->Value:=λx=>if x=s then τ else σ x
 have e1:σ' s=τ:=if_pos rfl;have e2:∀x,x≠s->σ' x=σ x:=λx hx=>if_neg hx
 have hsz:=h.frame.size;have hk:aU w w' (Own E.O (live st.heap) σ) (Own E.O (live st.heap) σ'):=by
  refine⟨h4,λx hx hlt=>h5 x hlt λe=>hx (.inr ⟨s,hl,e⟩),λx hx hlt ho=>?_⟩;rcases ho with ho|⟨y,hy,e⟩
  . exact hx (.inl ho)
  . by_cases hys:y=s
    . subst hys;rw[e1]at e;rcases hτ x e with e|e
      . exact hx (.inr ⟨y,hy,e⟩)
      . omega
    . rw[e2 y hys]at e;exact hx (.inr ⟨y,hy,e⟩)
 have hk' :aU w w' (Own (λb=>E.O b\/(live st.heap s/\home (σ s)=some b)) (λx=>live st.heap x/\x≠s) σ) (Own E.O (live st.heap) σ') :=
  ⟨hk.size,λx hx hlt=>hk.block x (λho=>hx ((xH x).2 ho)) hlt,λx hx hlt=>hk.own x (λho=>hx ((xH x).2 ho)) hlt⟩
 have hs' :∀x,(live st.heap x/\x≠s)->live st.heap x/\σ' x=σ x:=λx ⟨hx,hne⟩=>⟨hx,e2 x hne⟩
 have hlive:live ((s,b)::dM s st.heap)=live st.heap:=by
  rw[eu (by rw[yM];exact hl),yM]
 have hget:∀t,(St.mk (bd (gC s st.slots) d v) ((s,b)::dM s st.heap)).get t=if d=some t then v else tw s (st.get t):=λt=>by
  have:=St.eV ⟨gC s st.slots,dM s st.heap⟩ d v [] t;rw[Li (h' :=st.heap)]at this;exact this
 refine⟨σ',⟨h1.trans h.frame.os,h2.trans h.frame.tape,h3.trans h.frame.output,by omega,λx hx=>?_⟩,h.new,h.apart,?_,?_,λt=>?_,⟨λs' b' hb' =>?_,λx y g lx ly ex ey=>?_⟩,h.glob,h.globF,λq0 B hB=>⟨(h.fix q0 B hB).1,λhl' =>?_⟩⟩
 . have hlt:x<w.heap.size:=by
    rcases Nat.lt_or_ge x w.heap.size with hlt|hge
    . exact hlt
    . exact absurd (h.new x (by omega)) hx
   rw[h5 x hlt λe=>hx (h.holds.home hl e).1];exact h.frame.block x hx
 . cases d <;> exact h.defers
 . cases d <;> simp[Act.put,h.nt]
 . rw[hget,gV (by rw[h.nt];exact hd)];show au w' E.O (live ((s,b)::dM s st.heap)) σ' _ _
   rw[hlive];by_cases e:d=some t
   . rw[if_pos e,if_pos e];exact hr σ' e1
   . rw[if_neg e,if_neg e];exact(BA (s:=s) (h.slots t)).mono hk' hs'
 . show cw w' E.F E.O (live ((s,b)::dM s st.heap)) σ' s' b'
   rw[hlive];have hb'' :find ((s,b)::dM s st.heap) s' =some b' :=hb';rw[eG]at hb'';split at hb''
   . rename_i e;subst e;cases hb'';exact hb σ' e1 e2 hk
   . rename_i e;simp only[dM,kM]at hb'';cases hf:find st.heap s' with
     |none=>rw[hf]at hb'';cases hb''
     |some b0 =>
      rw[hf]at hb'';cases hb'';have hl' :live st.heap s' :=ax.2 ⟨b0,hf⟩;have hne:s' ≠s:=λe' =>e e'.symm
      have hold:=h.holds.blk s' b0 hf;have hfix:∀g,home (σ s')=some g->w'.heap[g]? =w.heap[g]? :=λg hg=>h5 g (h.holds.home hl' hg).2 λe' =>hne (h.holds.inj s' s g hl' hl hg e')
      cases b0 with
      |box cells =>
       obtain⟨g,cur,t,p1,p2,p3,p4,p5⟩:=hold;refine⟨g,cur,t,(e2 s' hne).trans p1,p2,(hfix g (by rw[p1];rfl)).trans p3,by simpa using p4,λj c hj=>?_⟩;have hr' :=vP (s:=s) (λj c hj=>(p5 j c hj).2) j c hj;refine⟨?_,hr'.mono hk' hs'⟩;rw[aN]at hj;cases hc:cells[j]? with
       |none=>rw[hc]at hj;cases hj
       |some y=>rw[hc]at hj;cases hj;exact zl (p5 j y hc).1
      |row e size rows fl =>
       obtain⟨xs,p1,p2,p3,p4,p5⟩:=hold;refine⟨xs,⟨p1.1,?_⟩,?_,⟨p3.1,λe=>by rw[e2 s' hne];exact p3.2 e⟩,p4,λi r j d hi hj=>?_⟩
       . rw[e2 s' hne];rcases p1.2 with q|⟨g,cap,cur,q1,q2,q3,q4⟩
         . exact .inl q
         . exact .inr ⟨g,cap,cur,q1,q2,(hfix g (by rw[q1];rfl)).trans q3,q4⟩
       . rw[e2 s' hne];exact p2
       . obtain⟨u,hu,hd⟩:=p5 i r j d hi hj;exact⟨u,hu,hd.mono hk⟩
      |smap m =>
       obtain⟨g,es,cl,p1,p2,p3,p4,p5⟩:=hold;refine⟨g,es,cl,(e2 s' hne).trans p1,p2,(hfix g (by rw[p1];rfl)).trans p3,p4,λj k v hj=>?_⟩;obtain⟨e,he,hk1,hv⟩:=p5 j k v hj;exact⟨e,he,hk1.mono hk,hv.mono hk⟩
      |kmap m =>
       obtain⟨g,es,cl,p1,p2,p3,p4⟩:=hold;exact⟨g,es,cl,(e2 s' hne).trans p1,p2,(hfix g (by rw[p1];rfl)).trans p3,p4.mono λ_ _ h=>h.mono hk⟩
      |arow e size rows =>
       obtain⟨g,cur,t,p1,p2,p3,p4,p5⟩:=hold;refine⟨g,cur,t,by rw[e2 s' hne,ao];exact p1,p2,(hfix g (by rw[p1];rfl)).trans p3,λr hr=>?_,λi r j c hi hj=>?_⟩
       . obtain⟨r0,hr0,rfl⟩:=List.mem_map.1 hr;rw[ao];exact p4 r0 hr0
       . obtain⟨r0,c0,h1,h2,rfl⟩:=xL hi hj;exact⟨⟨LZ (p5 i r0 j c0 h1 h2).1.1,(p5 i r0 j c0 h1 h2).1.2⟩,(BA (s:=s) (p5 i r0 j c0 h1 h2).2).mono hk' hs'⟩
      |tail e size rows =>
       show gS w' _ e size rows (σ' s')/\_
       rw[e2 s' hne];exact⟨hold.1.mono hfix λ_ _ hr=>hr.mono hk,hold.2⟩
      |iter left cur =>
       show oc w' _ left cur (σ' s')/\_
       rw[e2 s' hne];exact⟨hold.1.mono hfix hk,hold.2⟩
      |dg m =>
       obtain⟨g,es,cl,p1,p2,p3,p4,p5⟩:=hold;refine⟨g,es,cl,(e2 s' hne).trans p1,p2,(hfix g (by rw[p1];rfl)).trans p3,by rw[ao];exact p4,λj k v hj=>?_⟩;obtain⟨v0,hj0,rfl⟩:=sy hj;obtain⟨e,he,hk1,hv⟩:=p5 j k v0 hj0;exact⟨e,he,hk1,(gJ hv).mono hk' hs'⟩
 . rw[hlive]at lx ly;by_cases hx:x=s <;> by_cases hy:y=s
   . rw[hx,hy]
   . subst hx;rw[e1]at ex;rw[e2 y hy]at ey;rcases hτ g ex with e|e
     . exact h.holds.inj x y g lx ly e ey
     . have:=(h.holds.home ly ey).2;omega
   . subst hy;rw[e1]at ey;rw[e2 x hx]at ex;rcases hτ g ey with e|e
     . exact h.holds.inj x y g lx ly ex e
     . have:=(h.holds.home lx ex).2;omega
   . rw[e2 x hx]at ex;rw[e2 y hy]at ey;exact h.holds.inj x y g lx ly ex ey
 . have hl' :live ((s,b)::dM s st.heap) q0:=hl';rw[hlive]at hl';have hf:=(h.fix q0 B hB).2 hl';by_cases hx:q0=s
   . rw[hx]at hf;exact absurd hf (hrow _)
   . rw[e2 _ hx];exact hf
def nM(st:St):AV->Option (Nat×List (List D))
 | .d (.slice sz rows)=>some (sz,rows)
 | .nil sz=>some (sz,[])
 | .own s=>(match find st.heap s with|some (.row _ sz rows _)=>some (sz,rows)|_=>none)
 |_=>none
theorem bq.EW(h:bq cx E st σ a w){s:Nat}{b:Blk}{w' :World}{d:Option Nat}{u τ:Value}{v:AV}(hd:∀e,d=some e->e<E.nt)(hl:live st.heap s)(hrow:∀x,σ s≠ .pointer x)
 (h1:w'.os=w.os) (h2:w'.tape=w.tape) (h3:w'.output=w.output) (h4:w.heap.size<=w'.heap.size) (h5:∀k,k<w.heap.size->home (σ s)≠some k->w'.heap[k]? =w.heap[k]?)
 (hτ:∀g,home τ=some g->home (σ s)=some g\/w.heap.size<=g)
 (hb:∀σ' :Nat->Value,σ' s=τ->aU w w' (Own E.O (live st.heap) σ) (Own E.O (live st.heap) σ')->cw w' E.F E.O (live st.heap) σ' s b)
 (hr:∀σ' :Nat->Value,σ' s=τ->au w' E.O (live st.heap) σ' v u) :
 ∃σ',bq cx E ⟨bd (gC s st.slots) d v,(s,b)::dM s st.heap⟩ σ' (a.put d u) w' :=h.PN hd hl hrow h1 h2 h3 h4 h5 hτ (λσ' e1 _ hk=>hb σ' e1 hk) hr
theorem AN(hs:bq cx E st σ a w){x:AV}{sz:Nat}{rows:List (List D)}(h:nM st x=some (sz,rows)){u:Value}(hr:au w E.O (live st.heap) σ x u) :
 ∃ad c,u= .slice ad rows.length c/\(∀r∈rows,r.length=sz/\ ∀d∈r,d.one=true) /\
  (rows≠[]-> ∃B off,ad=some ⟨B,off,none⟩/\ ∀i r j d,rows[i]? =some r->r[j]? =some d-> ∃v,w.cell? ⟨B,off+(i*sz+j),none⟩=some v/\Rep w (Own E.O (live st.heap) σ) d v):=by
 unfold nM at h;split at h
 . cases h;cases hr with|d _ _ hr=>cases hr with
   |empty=>exact⟨_,_,rfl,λr hr=>by simp at hr,λhne=>absurd rfl hne⟩
   |slice _ _ B off n cap us hn hO hB hc hl h1 h2 =>
    subst hn;exact⟨_,_,rfl,hl,λ_=>⟨B,off,rfl,λi r j d hi hj=>⟨us i j,by rw[<- Nat.add_assoc];exact h1 i r j d hi hj,h2 i r j d hi hj⟩⟩⟩
 . cases h;cases hr;exact⟨_,_,rfl,λr hr=>by simp at hr,λhne=>absurd rfl hne⟩
 . rename_i s;split at h
   . rename_i e sz' rows' fl hf;cases h;cases hr with|own _ hL =>
      obtain⟨xs,o1,o2,o3,o4,o5⟩:=hs.holds.blk s _ hf;rcases o1.2 with ⟨e1,e2⟩|⟨g,cap,cur,e1,_,e3,e4,_,e6,e7⟩
      . obtain rfl:rows=[]:=List.eq_nil_of_length_eq_zero e2;exact⟨_,_,e1,o4,λhne=>absurd rfl hne⟩
      . refine⟨_,_,e1,o4,λ_=>⟨g,0,rfl,λi r j d hi hj=>?_⟩⟩;obtain⟨u,hu,hd⟩:=o5 i r j d hi hj;refine⟨u,?_,hd⟩;rw[<- e7,List.getElem?_take]at hu;split at hu
        . simp only[World.cell?,e3,Nat.zero_add];simpa using hu
        . cases hu
   . cases h
 . cases h
theorem mw(P:Program)(w:World){t ty e:TypeId}{i:TypeInfo}(ht:P.underlying t=some (.slice e))(hi:P.info? e=some i){base:Option Addr}{n cap:Nat}(hn:n<=cap)(ad:Option Addr)(c:Nat) :
 (Builtin.append_ #[t,t] ty #[.slice base n cap,.slice ad 0 c]).run P w= .ok (.slice base n cap) w:=by
 cases base <;> cases ad <;> simp[Builtin.append_,run_underlying ht,Go.sizeOf,typeInfo,hi,Builtin.lenOf,Builtin.firstCells,hn,loadCells,loadCellsFrom,storeCells]
theorem yb(hT:ba cx)(hs:bq cx E st σ a w){t e ty:TypeId}{ei:TI}(hse:bO cx t=some (e,ei))(hsz:1<=ei.size){x:AV}{rows2:List (List D)}(hx:nM st x=some (ei.size,rows2)){u v:Value}(hr:au w E.O (live st.heap) σ x u)
 {n:Nat} {xs:List Value} (hown:w.ownsRow 0 e ei.size v n xs) (hb1:n+rows2.length<=maxLen) (hb2:(n+rows2.length)*ei.bytes<=140737488355328) :
 ∃v' w' news,(Builtin.append_ #[t,t] ty #[v,u]).run cx.P w= .ok v' w' /\w'.ownsRow 0 e ei.size v' (n+rows2.length) (xs++news)/\w.grownBy w' v.ownBlock/\(∀g,home v' =some g->home v=some g\/w.heap.size<=g) /\
  (∀r∈rows2,r.length=ei.size/\ ∀d∈r,d.one=true)/\ ∀i r j d,rows2[i]? =some r->r[j]? =some d-> ∃z,news[i*ei.size+j]? =some z/\Rep w (Own E.O (live st.heap) σ) d z:=by
 obtain⟨ti,ht,hkd,hei⟩:=bP hse;obtain⟨_,_,_,_,t2,t3,_⟩:=hT _ _ ht;rw[hkd]at t3;obtain rfl:=bE t3;obtain⟨info,desc,zv,i1,i2,i3,i4,i5,i6,i7,i8,i9,i10⟩:=hT _ _ hei;obtain⟨ad,c,rfl,p1,p2⟩:=AN hs hx hr;by_cases hne:rows2=[]
 . subst hne;have hv:∃base cap,v= .slice base n cap/\n<=cap:=by
    rcases hown.2 with ⟨rfl,rfl⟩|⟨g,cap,cur,rfl,_,_,h,_⟩
    . exact⟨none,0,rfl,Nat.le_refl _⟩
    . exact⟨_,cap,rfl,h⟩
   obtain⟨base,cap,rfl,hnc⟩:=hv;refine⟨_,w,[],mw cx.P w t2 i1 hnc ad c,by simpa using hown,⟨rfl,rfl,rfl,Nat.le_refl _,λ_ _ _=>rfl⟩,λg hg=> .inl hg,p1,λi r j d hi=>by simp at hi⟩
 . obtain⟨B,off,rfl,p3⟩:=p2 hne
   let f:Nat->Value:=λq=>(w.cell? ⟨B,off+q,none⟩).getD Go.undef
   have hq:∀q,q<rows2.length*ei.size-> ∃r d,rows2[q / ei.size]? =some r/\r[q % ei.size]? =some d/\d.one=true:=λq hq=>by
    have h1:q / ei.size<rows2.length:=Nat.div_lt_of_lt_mul (by rw[Nat.mul_comm];exact hq);have h2:=aj h1;have h3:=p1 _ (List.getElem_mem h1);have h4:q % ei.size<(rows2[q / ei.size]).length:=by rw[h3.1];exact Nat.mod_lt _ hsz
    exact⟨_,_,h2,aj h4,h3.2 _ (List.getElem_mem h4)⟩
   have hdm:∀q,q / ei.size*ei.size+q % ei.size=q:=λq=>by rw[Nat.mul_comm];exact Nat.div_add_mod q ei.size
   have hcell:∀q,q<rows2.length*ei.size->w.cell? ⟨B,off+q,none⟩=some (f q)/\(f q).oneCell' =true:=λq hlt=>by
    obtain⟨r,d,h1,h2,h3⟩:=hq q hlt;obtain⟨z,hz,hd⟩:=p3 _ r _ d h1 h2;rw[hdm]at hz;have:f q=z:=by simp[f,hz]
    rw[this];exact⟨hz,hd.im h3⟩
   have hnl:((List.range (rows2.length*ei.size)).map f).length=rows2.length*ei.size:=by simp
   have hnews:∀j u,((List.range (rows2.length*ei.size)).map f)[j]? =some u->w.cell? ((⟨B,off,none⟩:Addr).add j)=some u:=λj u hj=>by
    have hlt:j<rows2.length*ei.size:=by have:=(aq.1 hj).1;simpa using this
    rw[cC];have:f j=u:=by simpa [hlt] using hj
    rw[<- this];exact(hcell j hlt).1
   have hone:∀u∈(List.range (rows2.length*ei.size)).map f,u.oneCell' =true:=λu hu=>by
    obtain⟨q,hq,rfl⟩:=List.mem_map.1 hu;exact(hcell q (by simpa using hq)).2
   obtain⟨v',w',r1,r2,r3,_⟩:=run_append_own (P:=cx.P) w 0 t ty e info zv ei.size ei.bytes t2 i1 i6 i4 i5 (by rw[i7, <- i8]) hsz v n xs hown ⟨B,off,none⟩ rows2.length c _ hnl hnews hone hb1 hb2 (Nat.zero_le _);have hpos:0<rows2.length:=List.length_pos_iff.2 hne;refine⟨v',w',_,r1,r2,r3,λg hg=>?_,p1,λi r j d hi hj=>?_⟩
   . have hm63:n+rows2.length<=9223372036854775807:=by simpa [maxLen] using hb1
     rcases hown.2 with ⟨rfl,rfl⟩|⟨g0,cap,cur,rfl,_,hg0,hnc,_,hcs,_⟩
     . have:=run_append_nil (P:=cx.P) w t ty e info zv t2 i1 i6 ⟨B,off,none⟩ rows2.length c _ (by rw[i4];exact hnl) hnews hpos (by omega) (by rw[i5];rw[Nat.zero_add]at hb2;omega);rw[this]at r1;cases r1;cases hg;exact .inr (Nat.le_refl _)
     . by_cases hroom:n+rows2.length<=cap
       . have:=run_append_room (P:=cx.P) w t ty e info t2 i1 g0 n cap cur hg0 ⟨B,off,none⟩ rows2.length c _ (by rw[i4];exact hnl) hnews hone hroom (by rw[hnl,hcs,i4, <- Nat.add_mul];exact Nat.mul_le_mul_right _ hroom);rw[this]at r1;cases r1;exact .inl hg
       . have:=run_append_grow (P:=cx.P) w t ty e info zv t2 i1 i6 ⟨g0,0,none⟩ n cap xs (by rw[i4];exact hown.1) (hown.cells (g:=g0) rfl) ⟨B,off,none⟩ rows2.length c _ (by rw[i4];exact hnl) hnews (by omega) (by omega) (by rw[i5];exact growslice_fits (by omega) hb2);rw[this]at r1;cases r1;cases hg;exact .inr (Nat.le_refl _)
   . obtain⟨z,hz,hd⟩:=p3 i r j d hi hj;have hlt:i*ei.size+j<rows2.length*ei.size:=by
      have h1:=(aq.1 hi).1;have h2:=(aq.1 hj).1;rw[(p1 r (ar hi)).1]at h2;have:(i+1)*ei.size<=rows2.length*ei.size:=Nat.mul_le_mul_right _ h1;rw[Nat.add_mul]at this;omega
     refine⟨z,?_,hd⟩;have:f (i*ei.size+j)=z:=by simp[f,hz]
     simp[hlt,this]
def zW(cx:Cx)(st:St)(d:Option Nat)(t:TypeId)(s x:AV)(k:AV->List (Nat×AV)->List (Nat×Blk)->Prop):Prop :=
 match bO cx t with
 |some (e,ei)=>(match Nat.ble 1 ei.size,nM st x with
  |true,some (sz,rows2)=>(match Nat.beq sz ei.size with
   |true=>(match s with
    | .own s=>(match find st.heap s with
     |some (.row e' sz' rows _)=>(match Nat.beq e e',Nat.beq ei.size sz' with
      |true,true=>rows.length+rows2.length<=9223372036854775807/\(rows.length+rows2.length)*ei.bytes<=140737488355328/\k (.own s) (gC s st.slots) ((s,.row e' sz' (rows++rows2))::dM s st.heap)
      |_,_=>False)
     |_=>False)
    | .nil _=>(match d with
     |some d=>(match find st.heap d with
      |none=>rows2.length<=9223372036854775807/\rows2.length*ei.bytes<=140737488355328/\k (.own d) st.slots ((d,.row e ei.size rows2)::st.heap)
      |some _=>False)
     |none=>False)
    |_=>False)
   |false=>False)
  |_,_=>False)
 |none=>False
theorem lQ{w w' :World}{O O' :Nat->Prop}{size:Nat}{rows rows2:List (List D)}{xs news:List Value}(hx:xs.length=rows.length*size)(hk:aU w w' O O')
 (h1:∀i r j d,rows[i]? =some r->r[j]? =some d-> ∃u,xs[i*size+j]? =some u/\Rep w O d u) (h2:∀i r j d,rows2[i]? =some r->r[j]? =some d-> ∃u,news[i*size+j]? =some u/\Rep w O d u)
 (i:Nat) (r:List D) (j:Nat) (d:D) (hi:(rows++rows2)[i]? =some r) (hj:r[j]? =some d):∃u,(xs++news)[i*size+j]? =some u/\Rep w' O' d u:=by
 by_cases hlt:i<rows.length
 . rw[cq hlt]at hi;obtain⟨u,hu,hd⟩:=h1 i r j d hi hj;refine⟨u,?_,hd.mono hk⟩;rw[cq (aq.1 hu).1];exact hu
 . rw[bX (by omega)]at hi;obtain⟨u,hu,hd⟩:=h2 _ r j d hi hj;refine⟨u,?_,hd.mono hk⟩;obtain⟨q,rfl⟩:∃q,i=rows.length+q:=⟨i-rows.length,by omega⟩
   rw[bX (by rw[hx,Nat.add_mul];omega),hx,Nat.add_mul];rw[show rows.length*size+q*size+j-rows.length*size=q*size+j by omega];rw[show rows.length+q-rows.length=q by omega]at hu;exact hu
theorem Ky(hT:ba cx){o:Oper}{s x:Operand}{t:TypeId}(ho:o.op= .call {callee:= .builtin .append,args:= #[s,x],argTypes:= #[t,t]}){k:AV->List (Nat×AV)->List (Nat×Blk)->Prop}
 (h:zW cx st o.dst t (st.ev cx s) (iF cx t (st.ev cx x)) k):∃v sl hp,iu cx o st ⟨bd sl o.dst v,hp⟩/\k v sl hp:=by
 have hexec:∀(a:Act) (w:World) {z:Value} {w' :World},(Builtin.append_ #[t,t] o.type #[a.eval s,a.eval x]).run cx.P w= .ok z w' ->(execOp a.eval o).run cx.P w= .ok (.value z) w' :=λa w z w' hh=>by
  simp[execOp,ho,resolve,invoke,builtin,hh]
 unfold zW at h;split at h
 . rename_i e ei hse;split at h
   . rename_i sz rows2 hsz hsrc;have hsz:1<=ei.size:=ag hsz;split at h
     . rename_i hsz2;obtain rfl:sz=ei.size:=aO hsz2;split at h
       . rename_i site hsv;split at h
         . rename_i e' sz' rows fl0 hf;split at h
           . rename_i c1 c2;obtain rfl:e=e' :=aO c1;obtain rfl:ei.size=sz' :=aO c2;obtain⟨b1,b2,hk⟩:=h;refine⟨_,_,_,λE a w Q hd ⟨σ,hs⟩=>?_,hk⟩;have hrs:=hs.ev (St.le.refl st) s;rw[hsv]at hrs;have hrx:=iG (cx:=cx) (t:=t) (hs.ev (St.le.refl st) x);obtain⟨xs,o1,o2,o3,o4,o5⟩:=hs.holds.blk site _ hf;have hl:live st.heap site:=ax.2 ⟨_,hf⟩;obtain⟨v',w',news,r1,r2,r3,r4,r5,r6⟩:=yb (ty:=o.type) hT hs hse hsz hsrc hrx o1 (by simpa [maxLen] using b1) b2;have hsv' :a.eval s=σ site:=by generalize a.eval s=u at hrs;cases hrs;rfl
             rw[<- hsv']at r1;simp only[Oper.wp,hexec a w r1,Oper.upon];refine hs.EW (τ:=v') hd hl (λaa e=>by rcases o1.2 with ⟨e',_⟩|⟨_,_,_,e',_⟩ <;> (rw[e']at e;cases e)) r3.os r3.tape r3.output r3.size (λq hq hne=>r3.block q hq λe=>hne ?_) r4 (λσ' e1 hkeep=>?_) (λσ' e1=>?_)
             . have:(σ site).ownBlock=some q:=e.symm;generalize σ site=z at this ⊢;cases z <;> simp[Value.ownBlock]at this;rename_i aa _ _;cases aa <;> simp[Value.ownBlock]at this;simp[home,this]
             . refine⟨xs++news,by rw[e1,List.length_append];exact r2,λb hb=>?_,⟨o3.1,λe=>by cases e⟩,λr hr=>?_,lQ (by rw[o1.1]) hkeep o5 r6⟩
               . rw[e1]at hb;rcases r4 b hb with hb|hb
                 . exact o2 b hb
                 . exact hs.new b (Nat.le_trans hs.frame.size hb)
               . rcases List.mem_append.1 hr with hr|hr
                 . exact o4 r hr
                 . exact r5 r hr
             . have:=au.own (w:=w') (O:=E.O) (σ:=σ') site hl;rw[e1]at this;exact this
           . exact h.elim
         . exact h.elim
       . rename_i z0 hsv;split at h
         . rename_i d hd0;split at h
           . rename_i hf;obtain⟨b1,b2,hk⟩:=h;refine⟨_,_,_,λE a w Q hd ⟨σ,hs⟩=>?_,hk⟩;have hrs:=hs.ev (St.le.refl st) s;rw[hsv]at hrs;have hrx:=iG (cx:=cx) (t:=t) (hs.ev (St.le.refl st) x);have hsv' :a.eval s= .slice none 0 0:=by generalize a.eval s=u at hrs;cases hrs;rfl
             obtain⟨v',w',news,r1,r2,r3,r4,r5,r6⟩:=yb (ty:=o.type) hT hs hse hsz hsrc hrx (World.ownsRow_nil w 0 e ei.size) (by simpa [maxLen] using b1) (by simpa using b2);rw[<- hsv']at r1;simp only[Oper.wp,hexec a w r1,Oper.upon];have hn:¬live st.heap d:=by unfold live;rw[hf];simp
             let σ' :Nat->Value:=λx=>if x=d then v' else σ x
             have e1:σ' d=v' :=if_pos rfl;have e2:∀x,live st.heap x->σ' x=σ x:=λx hl=>if_neg λ(e:x=d)=>hn (e ▸ hl)
             have hbel:Below w.heap.size w w' :=oX r3;have hnew:∀g,home v' =some g->w.heap.size<=g:=λg hg=>by
              rcases r4 g hg with h|h
              . cases h
              . exact h
             have hkeep:aU w w' (Own E.O (live st.heap) σ) (Own E.O (live ([(d,Blk.row e ei.size rows2)]++st.heap)) σ'):=by
              refine⟨hbel.size,λx _ hx=>hbel.block x hx,λx hno hx ho=>?_⟩;rcases ho with ho|⟨y,hl,e⟩
              . exact hno (.inl ho)
              . rcases bW.1 hl with hl|hl
                . rw[bH.1 hl,e1]at e;have:=hnew x e;omega
                . rw[e2 y hl]at e;exact hno (.inr ⟨y,hl,e⟩)
             have hld:live ([(d,Blk.row e ei.size rows2)]++st.heap) d:=bW.2 (.inl (bH.2 rfl));have hfx:∀q0 B,E.fix q0=some B-> ¬live [(d,Blk.row e ei.size rows2)] q0:=λq0 B hB hl=>by
              have h1:=(hs.fix q0 B hB).1;have h2:d<E.nt:=hd d (by assumption);have h3:q0=d:=bH.1 hl;omega
             refine⟨σ',hs.grow (bs:=[(d,Blk.row e ei.size rows2)]) (v:= .own d) hd e2 hbel hfx (λx g hl e=>?_) (λx y g hl hl' _ _=>(bH.1 hl).trans (bH.1 hl').symm) (λx b hb=>?_) ?_⟩
             . rw[bH.1 hl,e1]at e;exact hnew g e
             . have hl:=bH.1 (ax.2 ⟨b,hb⟩);subst hl;rw[aP]at hb;cases hb;refine⟨news,by rw[e1];simpa using r2,λb hb=>?_,⟨hsz,λe=>by cases e⟩,r5,λi r j d hi hj=>?_⟩
               . rw[e1]at hb;exact hs.new b (Nat.le_trans hs.frame.size (hnew b hb))
               . obtain⟨u,hu,hd⟩:=r6 i r j d hi hj;exact⟨u,hu,hd.mono hkeep⟩
             . have:=au.own (w:=w') (O:=E.O) (σ:=σ') d hld;rw[e1]at this;exact this
           . exact h.elim
         . exact h.elim
       . exact h.elim
     . exact h.elim
   . exact h.elim
 . exact h.elim
end
section
variable {cx:Cx} {st:St} {E:Env} {σ:Nat->Value} {a:Act} {w:World}
def amV:AV->Bool
 | .own _=>true
 | .d _=>true
 | .nil _=>true
 |_=>false
def vO(cx:Cx)(st:St)(t:TypeId)(m key v:AV)(k:List (Nat×Blk)->Prop):Prop :=
 match m,key,cx.ty t with
 | .omap s,.agg cs,some ⟨_,_,.map kt _,_⟩=>(match find st.heap s,bN dI cs,cx.eqT kt,gF v with
  |some (.kmap mm),some kc,some ks,some x=>(match gi ks kc with
   |true=> ∃mm',vM ks kc x mm=some mm' /\k ((s,.kmap mm')::st.heap)
   |false=>False)
  |_,_,_,_=>False)
 | .omap s,.d (.int ki n),some ⟨_,_,.map kt _,_⟩=>(match find st.heap s,Cs cx kt (.int ki n),gF v with
  |some (.kmap mm),true,some x=> ∃mm',wb (.int ki n) x mm=some mm' /\k ((s,.kmap mm')::st.heap)
  |_,_,_=>False)
 | .omap s,.d (.str b),some ⟨_,_,.map kt et,_⟩=>(match find st.heap s,isStr cx kt with
  |some (.smap mm),true=>(match gF v with
   |some x=>k ((s,.smap (bS b x mm))::st.heap)
   |none=>False)
  |some (.dg mm),true=>(match amV v with
   |true=>k ((s,.dg (bS b v mm))::st.heap)
   |false=>False)
  |_,_=>False)
 |_,_,_=>False
theorem lz{α:Type}{b:List UInt8}{x:α}:∀{m:List (List UInt8×α)},bf b m=none->bS b x m=m++[(b,x)]
 |[],_=>rfl
 |(k,v)::t,h=>by
  simp only[bf]at h;split at h
  . cases h
  . rename_i hne;simp[bS,hne,lz h]
theorem Ed(hT:ba cx){o:Oper}{t:TypeId}{m key v:Operand}(ho:o.op= .mapUpdate t m key v\/o.op= .insert t m key v){s:Nat}(hm:st.ev cx m= .omap s){sz by' :Nat}{kt et:TypeId}{zero:List AV}(ht:cx.ty t=some ⟨sz,by',.map kt et,zero⟩)
 {mm mm' :List (List D×D)} (hf:find st.heap s=some (.kmap mm)) {eq:List D->Option Bool} {kc:List D} {x:D} (hput:kx eq kc x mm=some mm') (hfree:gF (st.ev cx v)=some x)
 (hkey:∀(E:Env) σ a w,bq cx E st σ a w->lJ cx.P kt kc eq (a.eval key)):iu cx o st ⟨bd st.slots o.dst (.tuple []),(s,.kmap mm')::st.heap⟩:=by
 intro E a w Q hd ⟨σ,hs⟩;obtain⟨_,_,_,_,t2,t3,_⟩:=hT _ _ ht;have t3:=iE t3;subst t3;have hrm:=hs.ev (St.le.refl st) m;rw[hm]at hrm;have hrv:=iC hfree (hs.ev (St.le.refl st) v);obtain⟨g,es,clock,e1,e2,e3,⟨e4,e6⟩,e5⟩:=hs.holds.blk s _ hf;have hl:live st.heap s:=ax.2 ⟨_,hf⟩;have hmv:a.eval m= .map (some g):=by generalize a.eval m=u at hrm;cases hrm;exact e1
 have hk:=hkey E σ a w hs;have hchk:=hk.chk false w;have hget:(getObj g).run cx.P w= .ok (.map es clock) w:=MapKept.run_getObj_map e3;have hset:∀ob,(setObj g ob).run cx.P w= .ok () {w with heap:=w.heap.setIfInBounds g ob}:=λob=>MapKept.run_setObj_map ob e3
 have hlt:g<w.heap.size:=(bj.1 e3).1;have hrt:∀{w:World} {O L:Nat->Prop} {σ:Nat->Value},au w O L σ (.tuple []) Go.undef:= .tuple [] #[] rfl λj c hj=>by simp at hj
 obtain⟨r,hr⟩:=uT hput;have hexec:∀{w'},(Instr.mapUpdate t (.map (some g)) (a.eval key) (a.eval v)).run cx.P w= .ok () w' ->(execOp a.eval o).run cx.P w= .ok .skip w' :=λhh=>by
  rcases ho with ho|ho <;> simp[execOp,ho,hmv,hh]
 have fin : ∀ (es' : Array MapEntry) (clock' : Nat), (execOp a.eval o).run cx.P w = .ok .skip { w with heap := w.heap.setIfInBounds g (.map es' clock') } ->
     su (Rep w (Own E.O (live st.heap) σ)) mm' es' clock' ->
     o.wp cx.P a w (λa' w' =>Sim cx E ⟨bd st.slots o.dst (.tuple []),(s,.kmap mm')::st.heap⟩ a' w') Q:=by
  intro es' clock' hrun hmv';simp only[Oper.wp,hrun,Oper.upon];refine⟨σ,hs.write hd hl (by rw[e1];rfl) rfl rfl rfl (by simp) (λq hq=>by simp[Ne.symm hq]) (λhk=>?_) (λ_=>hrt)⟩;exact⟨g,es',clock',e1,e2,by simp[hlt],hmv'.mono λ_ _ h=>h.mono hk⟩
 rcases hk.find w _ mm es.toList r (by simpa using e4) (λj k v hj=>by
  obtain⟨e,he,q⟩:=e5 j k v hj;exact⟨e,by rw[aW];exact he,q⟩) hr with ⟨rfl,g2⟩|⟨j,k',v',e,rfl,g1,g3,g2,g4,g5,g6⟩
 . rw[qL hr]at hput;cases hput;refine fin (es.push ⟨a.eval key,a.eval v,clock⟩) (clock+1) (hexec ?_) ⟨⟨by simp[e4],rH e6 _ _⟩,λj k v' hj=>?_⟩
   . simp[Instr.mapUpdate,run_underlying t2,hget,hchk,g2,hset]
   . by_cases hlt:j<mm.length
     . rw[cq hlt]at hj;obtain⟨e,he,r⟩:=e5 j k v' hj;refine⟨e,?_,r⟩;rw[Array.getElem?_push,if_neg (by omega)];exact he
     . have:j=mm.length:=by have:=(aq.1 hj).1;simp at this;omega
       subst this;rw[bX (Nat.le_refl _)]at hj;simp at hj;obtain⟨rfl,rfl⟩:=hj;exact⟨⟨a.eval key,a.eval v,clock⟩,by rw[<- e4];simp,hk.key,hrv⟩
 . rw[g6 x]at hput;cases hput;have hese:es[j]? =some e:=by rw[<- aW];exact g3
   have hj0:j<es.size:=(bj.1 hese).1;have hstay:(Instr.keyThatStays (((es[j]?).map (·.key)).getD (a.eval key)) (a.eval key)).run cx.P w= .ok (a.eval key) w:=by
    simp[Instr.keyThatStays,hese,g5]
   refine fin (es.modify j λe=>{e with key:=a.eval key,val:=a.eval v}) clock (hexec ?_) ⟨⟨by simp[e4],oQ e6 _ _ λ_=>rfl⟩,λi k v' hi=>?_⟩
   . simp only[Instr.mapUpdate,Sem.run_bind,run_underlying t2,Result.andThen,hget,hchk,g2,hstay,hset]
   . rw[List.getElem?_set]at hi;rw[Array.getElem?_modify];split at hi
     . rename_i hij;subst hij
       try rw[if_pos (by omega)]at hi
       cases hi;exact⟨_,by rw[if_pos rfl,hese];rfl,hk.key,hrv⟩
     . rename_i hij;obtain⟨e',he',r⟩:=e5 i k v' hi;exact⟨e',by rw[if_neg hij];exact he',r⟩
theorem Bq(hT:ba cx){o:Oper}{t:TypeId}{m key v:Operand}(ho:o.op= .mapUpdate t m key v\/o.op= .insert t m key v){k:List (Nat×Blk)->Prop}(h:vO cx st t (st.ev cx m) (st.ev cx key) (st.ev cx v) k) :
 ∃hp,iu cx o st ⟨bd st.slots o.dst (.tuple []),hp⟩/\k hp:=by
 unfold vO at h;split at h
 . rename_i s cs sz by' kt et zero hm hkey ht
   split at h
   . rename_i mm kc ks x hf hkc hks hfree;split at h
     . rename_i hfit;obtain⟨mm',hput,h⟩:=h;have heq:=cx.eqOk kt ks hks;rw[As]at hput;refine⟨_,Ed hT ho hm ht hf hput hfree λE σ a w hs=>lJ.struct heq hfit ?_,h⟩;have hrk:=hs.ev (St.le.refl st) key;rw[hkey]at hrk;generalize a.eval key=u at hrk;cases hrk with|agg _ vs hl hh =>
        obtain⟨l1,l2⟩:=bQ hkc;obtain⟨f1,f2⟩:=uD hfit;refine .inr ⟨vs,rfl,by rw[hl,l1],λj d hj=>?_⟩;obtain⟨c,hc,hd⟩:=l2 j d hj;exact mK (gN hd (hh j c hc)) (f2 d (ar hj))
     . exact h.elim
   . exact h.elim
 . rename_i s ki n sz by' kt et zero hm hkey ht
   split at h
   . rename_i mm x hf hkt hfree;obtain⟨mm',hput,h⟩:=h;rw[AJ]at hput;obtain⟨desc,hd1,hd2,hd3⟩:=Eb hT hkt;refine⟨_,Ed hT ho hm ht hf hput hfree λE σ a w hs=>lJ.flat hd1 hd2 ?_,h⟩;have hrk:=hs.ev (St.le.refl st) key;rw[hkey]at hrk;generalize a.eval key=u at hrk;cases hrk with|d _ _ hri=>exact mK hri hd3
   . exact h.elim
 . rename_i s b sz by' kt et zero hm hkey ht
   split at h
   . rename_i mm hf hstr;split at h
     . rename_i x hfree;refine⟨_,λE a w Q hd ⟨σ,hs⟩=>?_,h⟩;obtain⟨_,_,_,_,t2,t3,_⟩:=hT _ _ ht;have t3:=iE t3;subst t3;obtain⟨ki,hk1,hk2⟩:=iT hstr;obtain⟨_,_,_,_,k2,k3,_⟩:=hT _ _ hk1;rw[hk2]at k3;obtain rfl:=ee k3;have hrm:=hs.ev (St.le.refl st) m;rw[hm]at hrm;have hrk:=hs.ev (St.le.refl st) key;rw[hkey]at hrk;have hrv:=iC hfree (hs.ev (St.le.refl st) v);obtain⟨bb,hbb,rfl⟩:=hrk.str;obtain⟨g,es,clock,e1,e2,e3,⟨e4,e6⟩,e5⟩:=hs.holds.blk s _ hf;have hl:live st.heap s:=ax.2 ⟨_,hf⟩;have hmv:a.eval m= .map (some g):=by generalize a.eval m=u at hrm;cases hrm;exact e1
       have hchk:(Instr.checkKey false 10000 kt (.string bb)).run cx.P w= .ok () w:=MapKept.run_checkKey (n:=9999) k2 (by simp[MapKept.IsKey]) _;have hget:(getObj g).run cx.P w= .ok (.map es clock) w:=MapKept.run_getObj_map e3;have hset:∀ob,(setObj g ob).run cx.P w= .ok () {w with heap:=w.heap.setIfInBounds g ob}:=λob=>MapKept.run_setObj_map ob e3
       have hlt:g<w.heap.size:=(bj.1 e3).1;have hrt:∀{w:World} {O L:Nat->Prop} {σ:Nat->Value},au w O L σ (.tuple []) Go.undef:= .tuple [] #[] rfl λj c hj=>by simp at hj
       have hesl:∀(j:Nat) k v,mm[j]? =some (k,v)-> ∃e,es.toList[j]? =some e/\Rep w (Own E.O (live st.heap) σ) (.str k) e.key/\Rep w (Own E.O (live st.heap) σ) v e.val:=λj k v hj=>by
        obtain⟨e,he,r⟩:=e5 j k v hj;exact⟨e,by rw[aW];exact he,r⟩
       have fin : ∀ (es' : Array MapEntry) (clock' : Nat), (execOp a.eval o).run cx.P w = .ok .skip { w with heap := w.heap.setIfInBounds g (.map es' clock') } ->
           ((es'.size=(bS bb.data.toList x mm).length/\iZ es' clock')/\ ∀(j:Nat) k v,(bS bb.data.toList x mm)[j]? =some (k,v)-> ∃e,es'[j]? =some e/\Rep w (Own E.O (live st.heap) σ) (.str k) e.key/\Rep w (Own E.O (live st.heap) σ) v e.val) ->
           o.wp cx.P a w (λa' w' =>Sim cx E ⟨bd st.slots o.dst (.tuple []),(s,.smap (bS bb.data.toList x mm))::st.heap⟩ a' w') Q:=by
        intro es' clock' hrun ⟨f1,f2⟩;simp only[Oper.wp,hrun,Oper.upon];refine⟨σ,hs.write hd hl (by rw[e1];rfl) rfl rfl rfl (by simp) (λq hq=>by simp[Ne.symm hq]) (λhk=>?_) (λ_=>hrt)⟩;refine⟨g,es',clock',e1,e2,by simp[hlt],f1,λj k v hj=>?_⟩;obtain⟨e,he,q1,q2⟩:=f2 j k v hj;exact⟨e,he,q1.mono hk,q2.mono hk⟩
       have hexec:∀{w'},(Instr.mapUpdate t (.map (some g)) (.string bb) (a.eval v)).run cx.P w= .ok () w' ->(execOp a.eval o).run cx.P w= .ok .skip w' :=λhh=>by
        rcases ho with ho|ho <;> simp[execOp,ho,hmv,hbb,hh]
       rcases zA (w:=w) (O:=E.O) (L:=live st.heap) (σ:=σ) bb mm es.toList 0 (by simpa using e4) hesl with ⟨g1,g2⟩|⟨j,v0,e,g1,g2,g3,g4,g5,g6,g7⟩
       . refine fin (es.push ⟨.string bb,a.eval v,clock⟩) (clock+1) (hexec ?_) ⟨?_,λj k v hj=>?_⟩
         . simp[Instr.mapUpdate,run_underlying t2,hget,hchk,MapKept.run_findKey k2 g2,hset]
         . rw[lz g1];exact⟨by simp[e4],rH e6 _ _⟩
         . rw[lz g1]at hj;by_cases hlt:j<mm.length
           . rw[cq hlt]at hj;obtain⟨e,he,r⟩:=e5 j k v hj;refine⟨e,?_,r⟩;rw[Array.getElem?_push,if_neg (by omega)];exact he
           . have:j=mm.length:=by have:=(aq.1 hj).1;simp at this;omega
             subst this;rw[bX (Nat.le_refl _)]at hj;simp at hj;obtain⟨rfl,rfl⟩:=hj;exact⟨⟨.string bb,a.eval _,clock⟩,by rw[<- e4];simp,.str _ _ rfl,hrv⟩
       . have hj0:j<es.size:=by have:=(aq.1 g3).1;simpa using this
         have hese:es[j]? =some e:=by rw[<- aW];exact g3
         have hstay:(Instr.keyThatStays (((es[j]?).map (·.key)).getD (.string bb)) (.string bb)).run cx.P w= .ok (.string bb) w:=by
          have:Instr.sameBits 10000 (.string bb) (.string bb)=true:=(MapKept.bytes_beq bb bb).2 rfl;simp[Instr.keyThatStays,hese,g6,this]
         refine fin (es.modify j λe=>{e with key:= .string bb,val:=a.eval v}) clock (hexec ?_) ⟨?_,λi k v' hi=>?_⟩
         . have g2' :Instr.findNow .string (.string bb) es.toList 0=some (some (j,e.val)):=by rw[g2];simp
           simp only[Instr.mapUpdate,Sem.run_bind,run_underlying t2,Result.andThen,hget,hchk,MapKept.run_findKey k2 g2',hstay,hset]
         . rw[g7];exact⟨by simp[e4],oQ e6 _ _ λ_=>rfl⟩
         . rw[g7,List.getElem?_set]at hi;rw[Array.getElem?_modify];split at hi
           . rename_i hij;subst hij;have hjm:j<mm.length:=by omega
             try rw[if_pos hjm]at hi
             cases hi;exact⟨_,by rw[if_pos rfl,hese];rfl,.str _ _ rfl,hrv⟩
           . rename_i hij;obtain⟨e',he',r⟩:=e5 i k v' hi;exact⟨e',by rw[if_neg hij];exact he',r⟩
     . exact h.elim
   . rename_i mm hf hstr;split at h
     . rename_i hv0;obtain⟨av,hav⟩:∃av,av=st.ev cx v:=⟨_,rfl⟩
       rw[<- hav]at h;refine⟨_,λE a w Q hd ⟨σ,hs⟩=>?_,h⟩;obtain⟨_,_,_,_,t2,t3,_⟩:=hT _ _ ht;have t3:=iE t3;subst t3;obtain⟨ki,hk1,hk2⟩:=iT hstr;obtain⟨_,_,_,_,k2,k3,_⟩:=hT _ _ hk1;rw[hk2]at k3;obtain rfl:=ee k3;have hrm:=hs.ev (St.le.refl st) m;rw[hm]at hrm;have hrk:=hs.ev (St.le.refl st) key;rw[hkey]at hrk;have hrv:=hs.ev (St.le.refl st) v;rw[<- hav]at hrv;obtain⟨bb,hbb,rfl⟩:=hrk.str;obtain⟨g,es,clock,e1,e2,e3,⟨e4,e6⟩,e5⟩:=hs.holds.blk s _ hf;have hl:live st.heap s:=ax.2 ⟨_,hf⟩;have hmv:a.eval m= .map (some g):=by generalize a.eval m=u at hrm;cases hrm;exact e1
       have hchk:(Instr.checkKey false 10000 kt (.string bb)).run cx.P w= .ok () w:=MapKept.run_checkKey (n:=9999) k2 (by simp[MapKept.IsKey]) _;have hget:(getObj g).run cx.P w= .ok (.map es clock) w:=MapKept.run_getObj_map e3;have hset:∀ob,(setObj g ob).run cx.P w= .ok () {w with heap:=w.heap.setIfInBounds g ob}:=λob=>MapKept.run_setObj_map ob e3
       have hlt:g<w.heap.size:=(bj.1 e3).1;have hrt:∀{w:World} {O L:Nat->Prop} {σ:Nat->Value},au w O L σ (.tuple []) Go.undef:= .tuple [] #[] rfl λj c hj=>by simp at hj
       have hesl:∀(j:Nat) k v,mm[j]? =some (k,v)-> ∃e,es.toList[j]? =some e/\dE (.str k) e.key/\au w E.O (live st.heap) σ v e.val:=λj k v hj=>by
        obtain⟨e,he,r⟩:=e5 j k v hj;exact⟨e,by rw[aW];exact he,r⟩
       have fin : ∀ (es' : Array MapEntry) (clock' : Nat), (execOp a.eval o).run cx.P w = .ok .skip { w with heap := w.heap.setIfInBounds g (.map es' clock') } ->
           ((es'.size=(bS bb.data.toList av mm).length/\iZ es' clock')/\ ∀(j:Nat) k v,(bS bb.data.toList av mm)[j]? =some (k,v)-> ∃e,es'[j]? =some e/\dE (.str k) e.key/\au w E.O (live st.heap) σ v e.val) ->
           o.wp cx.P a w (λa' w' =>Sim cx E ⟨bd st.slots o.dst (.tuple []),(s,.dg (bS bb.data.toList av mm))::st.heap⟩ a' w') Q:=by
        intro es' clock' hrun ⟨f1,f2⟩;simp only[Oper.wp,hrun,Oper.upon];refine⟨σ,hs.write hd hl (by rw[e1];rfl) rfl rfl rfl (by simp) (λq hq=>by simp[Ne.symm hq]) (λhk=>?_) (λ_=>hrt)⟩;refine⟨g,es',clock',e1,e2,by simp[hlt],f1,λj k v hj=>?_⟩;obtain⟨e,he,q1,q2⟩:=f2 j k v hj;exact⟨e,he,q1,q2.mono hk λy hy=>⟨hy,rfl⟩⟩
       have hexec:∀{w'},(Instr.mapUpdate t (.map (some g)) (.string bb) (a.eval v)).run cx.P w= .ok () w' ->(execOp a.eval o).run cx.P w= .ok .skip w' :=λhh=>by
        rcases ho with ho|ho <;> simp[execOp,ho,hmv,hbb,hh]
       rcases ya (R:=au w E.O (live st.heap) σ) bb mm es.toList 0 (by simpa using e4) hesl with ⟨g1,g2⟩|⟨j,v0,e,g1,g2,g3,g4,g5,g6,g7⟩
       . refine fin (es.push ⟨.string bb,a.eval v,clock⟩) (clock+1) (hexec ?_) ⟨?_,λj k v hj=>?_⟩
         . simp[Instr.mapUpdate,run_underlying t2,hget,hchk,MapKept.run_findKey k2 g2,hset]
         . rw[lz g1];exact⟨by simp[e4],rH e6 _ _⟩
         . rw[lz g1]at hj;by_cases hlt:j<mm.length
           . rw[cq hlt]at hj;obtain⟨e,he,r⟩:=e5 j k v hj;refine⟨e,?_,r⟩;rw[Array.getElem?_push,if_neg (by omega)];exact he
           . have:j=mm.length:=by have:=(aq.1 hj).1;simp at this;omega
             subst this;rw[bX (Nat.le_refl _)]at hj;simp at hj;obtain⟨rfl,rfl⟩:=hj;exact⟨⟨.string bb,a.eval _,clock⟩,by rw[<- e4];simp,⟨_,rfl,rfl⟩,hrv⟩
       . have hj0:j<es.size:=by have:=(aq.1 g3).1;simpa using this
         have hese:es[j]? =some e:=by rw[<- aW];exact g3
         have hstay:(Instr.keyThatStays (((es[j]?).map (·.key)).getD (.string bb)) (.string bb)).run cx.P w= .ok (.string bb) w:=by
          have:Instr.sameBits 10000 (.string bb) (.string bb)=true:=(MapKept.bytes_beq bb bb).2 rfl;simp[Instr.keyThatStays,hese,g6,this]
         refine fin (es.modify j λe=>{e with key:= .string bb,val:=a.eval v}) clock (hexec ?_) ⟨?_,λi k v' hi=>?_⟩
         . have g2' :Instr.findNow .string (.string bb) es.toList 0=some (some (j,e.val)):=by rw[g2];simp
           simp only[Instr.mapUpdate,Sem.run_bind,run_underlying t2,Result.andThen,hget,hchk,MapKept.run_findKey k2 g2',hstay,hset]
         . rw[g7];exact⟨by simp[e4],oQ e6 _ _ λ_=>rfl⟩
         . rw[g7,List.getElem?_set]at hi;rw[Array.getElem?_modify];split at hi
           . rename_i hij;subst hij;have hjm:j<mm.length:=by omega
             try rw[if_pos hjm]at hi
             cases hi;exact⟨_,by rw[if_pos rfl,hese];rfl,⟨_,rfl,rfl⟩,hrv⟩
           . rename_i hij;obtain⟨e',he',r⟩:=e5 i k v' hi;exact⟨e',by rw[if_neg hij];exact he',r⟩
     . exact h.elim
   . exact h.elim
 . exact h.elim
end
def hZ(s:Nat):List (Nat×Blk)->List (Nat×Blk)
 |[]=>[]
 |(k,b)::t=>(match Nat.beq k s with|true=>hZ s t|false=>(k,b)::hZ s t)
theorem oZ{s x:Nat}:∀{h:List (Nat×Blk)},find (hZ s h) x=if x=s then none else find h x
 |[]=>by simp[hZ,find]
 |(k,b)::t=>by
  simp only[hZ];by_cases e:k=s
  . subst e;simp only[show Nat.beq k k=true by simp];rw[oZ (h:=t)];by_cases hx:x=k
    . rw[if_pos hx,if_pos hx]
    . rw[if_neg hx,if_neg hx,aQ _ _ (Ne.symm hx)]
  . have hb:Nat.beq k s=false:=by rw[<- Bool.not_eq_true];exact λh=>e (aO h)
    simp only[hb];by_cases hx:k=x
    . subst hx;rw[aP,if_neg e,aP]
    . rw[aQ _ _ hx,aQ _ _ hx,oZ (h:=t)]
def gG(s:Nat)(x:D):AV->AV
 | .own s' =>(match Nat.beq s s' with|true=> .d x|false=> .own s')
 | .rptr s' a b c=>(match Nat.beq s s' with|true=> .undef|false=> .rptr s' a b c)
 | .tl s' a b=>(match Nat.beq s s' with|true=> .undef|false=> .tl s' a b)
 | .ptr s' o=>(match Nat.beq s s' with|true=>(match o with|0=> .d x|_+1=> .undef)|false=> .ptr s' o)
 | .omap s' =>(match Nat.beq s s' with|true=> .d x|false=> .omap s')
 | .d y=> .d y
 | .nil z=> .nil z
 | .maybe p=> .maybe p
 |_=> .undef
def An(s:Nat)(x:D):AV->AV
 | .agg cs=> .agg (cs.map (gG s x))
 | .fn f a b=> .fn f (a.map (gG s x)) (b.map (gG s x))
 |v=>gG s x v
def frz(s:Nat)(x:D):AV->AV
 | .tuple vs=> .tuple (vs.map (An s x))
 |v=>An s x v
def nB(s:Nat)(x:D):Blk->Blk
 | .box cells=> .box (cells.map (gG s x))
 | .arow e z rows=> .arow e z (rows.map λr=>r.map (An s x))
 | .dg m=> .dg (m.map λp=>(p.1,gG s x p.2))
 |b=>b
def St.freeze(st:St)(s:Nat):St :=
 match find st.heap s with
 |some (.row _ sz rows _)=>⟨st.slots.map λp=>(p.1,frz s (.slice sz rows) p.2),(hZ s st.heap).map λp=>(p.1,nB s (.slice sz rows) p.2)⟩
 |some (.kmap m)=>⟨st.slots.map λp=>(p.1,frz s (.kmap m) p.2),(hZ s st.heap).map λp=>(p.1,nB s (.kmap m) p.2)⟩
 |some (.smap m)=>⟨st.slots.map λp=>(p.1,frz s (.kmap (m.map OT)) p.2),(hZ s st.heap).map λp=>(p.1,nB s (.kmap (m.map OT)) p.2)⟩
 |some (.box cells)=>(match bN dI cells with|some ds=>⟨st.slots.map λp=>(p.1,frz s (.ptr ds) p.2),(hZ s st.heap).map λp=>(p.1,nB s (.ptr ds) p.2)⟩|none=>st)
 |_=>st
def St.bw(st:St):List Nat->St
 |[]=>st
 |s::t=>(st.freeze s).bw t
section
variable {w:World} {O L:Nat->Prop} {σ:Nat->Value} {s:Nat} {x:D}
theorem eO:aU w w (Own O L σ) (Own O (λy=>L y/\y≠s) σ):=aU.less λb hb=>by
 rcases hb with hb|⟨y,⟨hy,_⟩,e⟩
 . exact .inl hb
 . exact .inr ⟨y,hy,e⟩
theorem nA(hx:Rep w (Own O (λy=>L y/\y≠s) σ) x (σ s)){c:AV}{v:Value}(h:au w O L σ c v):au w O (λy=>L y/\y≠s) σ (gG s x c) v:=by
 cases h with
 |undef=>exact .undef _
 |d y v h=>exact .d _ _ (h.mono eO)
 |nil=>exact .nil _
 |maybe p b h=>exact .maybe p b h
 |ptr s' off b hL h =>
  simp only[gG];split
  . rename_i e;obtain rfl:s=s' :=aO e;cases off with
    |zero=>rw[h]at hx;exact .d _ _ hx
    |succ=>exact .undef _
  . rename_i e;exact .ptr _ _ b ⟨hL,rC e⟩ h
 |own s' hL =>
  simp only[gG];split
  . rename_i e;obtain rfl:s=s' :=aO e;exact .d _ _ hx
  . rename_i e;exact .own _ ⟨hL,rC e⟩
 |rptr s' size i off b n cap o0 hL h=>simp only[gG];split;exact .undef _;rename_i e;exact .rptr _ _ _ _ b n cap o0 ⟨hL,rC e⟩ h
 |tl s' size i b n cap o0 hL h=>simp only[gG];split;exact .undef _;rename_i e;exact .tl _ _ _ b n cap o0 ⟨hL,rC e⟩ h
 |omap s' hL =>
  simp only[gG];split
  . rename_i e;obtain rfl:s=s' :=aO e;exact .d _ _ hx
  . rename_i e;exact .omap _ ⟨hL,rC e⟩
 |agg=>exact .undef _
 |tuple=>exact .undef _
 |fn=>exact .undef _
theorem eM{f:AV->AV}{cs:List AV}{vs:Array Value}{R R' :AV->Value->Prop}(hf:∀c v,R c v->R' (f c) v)(h:∀j c,cs[j]? =some c->R c (vs.getD j Go.undef))(j:Nat)(c:AV)(hj:(cs.map f)[j]? =some c):R' c (vs.getD j Go.undef):=by
 rw[aN]at hj;cases hc:cs[j]? with
 |none=>rw[hc]at hj;cases hj
 |some y=>rw[hc]at hj;cases hj;exact hf _ _ (h j y hc)
theorem xv(hx:Rep w (Own O (λy=>L y/\y≠s) σ) x (σ s)){c:AV}{v:Value}(h:au w O L σ c v):au w O (λy=>L y/\y≠s) σ (An s x c) v:=by
 cases c with
 |agg cs=>cases h with|agg _ vs hl hh=>exact .agg _ _ (by simpa using hl) (eM (λc v=>nA hx) hh)
 |fn f a b=>cases h with|fn _ _ _ xs vs hxs hl h1 h2=>exact .fn _ _ _ _ _ (by simpa using hxs) (by simpa using hl) (eM (λc v=>nA hx) h1) (eM (λc v=>nA hx) h2)
 |_=>exact nA hx h
theorem Qq(hx:Rep w (Own O (λy=>L y/\y≠s) σ) x (σ s)){c:AV}{v:Value}(h:au w O L σ c v):au w O (λy=>L y/\y≠s) σ (frz s x c) v:=by
 cases c with
 |tuple vs=>cases h with|tuple _ us hl hh=>exact .tuple _ _ (by simpa using hl) (eM (λc v=>xv hx) hh)
 |_=>exact xv hx h
theorem DL(h1:x.one=true){c:AV}(h:c.one=true\/c= .undef):(gG s x c).one=true\/gG s x c= .undef:=by
 rcases h with h|rfl
 . cases c <;> simp only[gG] <;> first|exact .inl h|exact .inr rfl|exact .inr trivial|(split <;> first|exact .inr rfl|exact .inl rfl|exact .inl h1|(split <;> first|exact .inr rfl|exact .inl h1))
 . exact .inr rfl
theorem NJ(h1:x.one=true){c:AV}(h:c.one=true\/c= .undef):(An s x c).one=true\/An s x c= .undef:=by
 cases c with
 |agg=>rcases h with h|h <;> cases h
 |tuple=>rcases h with h|h <;> cases h
 |fn=>exact .inl rfl
 |_=>exact DL (s:=s) h1 h
end
theorem bq.frz{cx:Cx}{E:Env}{st:St}{σ:Nat->Value}{a:Act}{w:World}{s:Nat}{x:D}(hs:bq cx E st σ a w)(hl:live st.heap s)(h1:x.one=true)(hx:Rep w (Own E.O (λy=>live st.heap y/\y≠s) σ) x (σ s)) :
 bq cx E ⟨st.slots.map λp=>(p.1,NQ.frz s x p.2),(hZ s st.heap).map λp=>(p.1,nB s x p.2)⟩ σ a w:=by
 have hlive:live ((hZ s st.heap).map λp=>(p.1,nB s x p.2))=λy=>live st.heap y/\y≠s:=funext λy=>by
  unfold live;rw[kM,oZ];by_cases e:y=s
  . simp[e]
  . rw[if_neg e];cases find st.heap y <;> simp[e]
 refine⟨hs.frame,hs.new,hs.apart,hs.defers,hs.nt,λt=>?_,⟨λy b hb=>?_,λy y' b ly ly' =>?_⟩,hs.glob,hs.globF,λq0 B hB=>⟨(hs.fix q0 B hB).1,λh=>(hs.fix q0 B hB).2 (by have h' :live ((hZ s st.heap).map λp=>(p.1,nB s x p.2)) q0:=h;rw[hlive]at h';exact h'.1)⟩⟩
 . show au w E.O (live ((hZ s st.heap).map λp=>(p.1,nB s x p.2))) σ (St.get ⟨st.slots.map λp=>(p.1,NQ.frz s x p.2),_⟩ t) _
   rw[hlive];have hg:St.get ⟨st.slots.map λp=>(p.1,NQ.frz s x p.2),(hZ s st.heap).map λp=>(p.1,nB s x p.2)⟩ t=NQ.frz s x (st.get t):=by
    simp only[St.get,kM];cases find st.slots t <;> rfl
   rw[hg];exact Qq hx (hs.slots t)
 . show cw w E.F E.O (live ((hZ s st.heap).map λp=>(p.1,nB s x p.2))) σ y b
   rw[hlive];have hb0:find ((hZ s st.heap).map λp=>(p.1,nB s x p.2)) y=some b:=hb;rw[kM,oZ]at hb0;by_cases ey:y=s
   . rw[if_pos ey]at hb0;cases hb0
   . rw[if_neg ey]at hb0;cases hfy:find st.heap y with
     |none=>rw[hfy]at hb0;cases hb0
     |some b0 =>
      rw[hfy]at hb0;have hold:=hs.holds.blk y b0 hfy;cases b0 with
      |box cells =>
       cases hb0;obtain⟨g,cur,t,p1,p2,p3,p4,p5⟩:=hold;refine⟨g,cur,t,p1,p2,p3,by simpa using p4,λj c hj=>?_⟩;refine⟨?_,eM (f:=gG s x) (R:=au w E.O (live st.heap) σ) (R' :=au w E.O (λy=>live st.heap y/\y≠s) σ) (λc v h=>nA hx h) (λj c hj=>(p5 j c hj).2) j c hj⟩;rw[aN]at hj;cases hc:cells[j]? with
       |none=>rw[hc]at hj;cases hj
       |some z=>rw[hc]at hj;cases hj;exact DL h1 (p5 j z hc).1
      |row e' size' rows' fl' =>
       cases hb0;obtain⟨xs,p1,p2,p3,p4,p5⟩:=hold;refine⟨xs,p1,p2,p3,p4,λi r j d hi hj=>?_⟩;obtain⟨u,hu,hd⟩:=p5 i r j d hi hj;exact⟨u,hu,hd.mono eO⟩
      |smap m =>
       cases hb0;obtain⟨g,es,cl,p1,p2,p3,p4,p5⟩:=hold;refine⟨g,es,cl,p1,p2,p3,p4,λj k v hj=>?_⟩;obtain⟨e,he,q1,q2⟩:=p5 j k v hj;exact⟨e,he,q1.mono eO,q2.mono eO⟩
      |kmap m=>cases hb0;obtain⟨g,es,cl,p1,p2,p3,p4⟩:=hold;exact⟨g,es,cl,p1,p2,p3,p4.mono λ_ _ h=>h.mono eO⟩
      |arow e size rows' =>
       cases hb0;obtain⟨g,cur,t,p1,p2,p3,p4,p5⟩:=hold;refine⟨g,cur,t,by rw[ao];exact p1,p2,p3,λr hr=>?_,λi r j c hi hj=>?_⟩
       . obtain⟨r0,hr0,rfl⟩:=List.mem_map.1 hr;rw[ao];exact p4 r0 hr0
       . obtain⟨r0,c0,k1,k2,rfl⟩:=xL hi hj;exact⟨⟨NJ h1 (p5 i r0 j c0 k1 k2).1.1,(p5 i r0 j c0 k1 k2).1.2⟩,xv hx (p5 i r0 j c0 k1 k2).2⟩
      |tail e size rows' =>
       cases hb0;exact⟨hold.1.mono (λ_ _=>rfl) λ_ _ hr=>hr.mono eO,hold.2⟩
      |iter left cur =>
       cases hb0;exact⟨hold.1.mono (λ_ _=>rfl) eO,hold.2⟩
      |dg m =>
       cases hb0;obtain⟨g,es,cl,p1,p2,p3,p4,p5⟩:=hold;refine⟨g,es,cl,p1,p2,p3,by rw[ao];exact p4,λj k v hj=>?_⟩;obtain⟨v0,hj0,rfl⟩:=sy hj;obtain⟨e,he,q1,q2⟩:=p5 j k v0 hj0;exact⟨e,he,q1,nA hx q2⟩
 . have l1:live ((hZ s st.heap).map λp=>(p.1,nB s x p.2)) y:=ly;have l2:live ((hZ s st.heap).map λp=>(p.1,nB s x p.2)) y' :=ly';rw[hlive]at l1 l2;exact hs.holds.inj y y' b l1.1 l2.1
theorem Sim.freeze{cx:Cx}{E:Env}{st:St}{a:Act}{w:World}(s:Nat)(h:Sim cx E st a w):Sim cx E (st.freeze s) a w:=by
 unfold St.freeze;split
 . rename_i e sz rows fl hf;obtain⟨σ,hs⟩:=h;have hl:live st.heap s:=ax.2 ⟨_,hf⟩;have hx:Rep w (Own E.O (λy=>live st.heap y/\y≠s) σ) (.slice sz rows) (σ s):=by
    obtain⟨xs,o1,o2,o3,o4,o5⟩:=hs.holds.blk s _ hf;rcases o1.2 with ⟨e1,e2⟩|⟨g,cap,cur,e1,_,e3,e4,_,e6,e7⟩
    . obtain rfl:rows=[]:=List.eq_nil_of_length_eq_zero e2;rw[e1];exact .empty _ _ _
    . rw[e1];have hg:home (σ s)=some g:=by rw[e1];rfl
      have hno:¬Own E.O (λy=>live st.heap y/\y≠s) σ g:=by
       rintro(ho|⟨y,⟨hy,hne⟩,ey⟩)
       . exact hs.apart g ho (o2 g hg)
       . exact hne (hs.holds.inj y s g hy hl ey hg)
      have hget:∀(i:Nat) r (j:Nat) d,rows[i]? =some r->r[j]? =some d->w.cell? ⟨g,0+i*sz+j,none⟩=some (xs.getD (i*sz+j) Go.undef)/\Rep w (Own E.O (λy=>live st.heap y/\y≠s) σ) d (xs.getD (i*sz+j) Go.undef):=by
       intro i r j d hi hj;obtain⟨u,hu,hd⟩:=o5 i r j d hi hj;have hx:xs.getD (i*sz+j) Go.undef=u:=by simp[List.getD,hu]
       rw[hx];refine⟨?_,hd.mono eO⟩;rw[<- e7,List.getElem?_take]at hu;split at hu
       . simp only[World.cell?,e3,Nat.zero_add];simpa using hu
       . cases hu
      exact .slice sz rows g 0 _ cap (λi j=>xs.getD (i*sz+j) Go.undef) rfl hno (bj.1 e3).1 e4 o4 (λi r j d hi hj=>(hget i r j d hi hj).1) (λi r j d hi hj=>(hget i r j d hi hj).2)
   exact⟨σ,hs.frz hl rfl hx⟩
 . rename_i m hf;obtain⟨σ,hs⟩:=h;have hl:live st.heap s:=ax.2 ⟨_,hf⟩;obtain⟨g,es,clock,e1,e2,e3,e4⟩:=hs.holds.blk s _ hf;have hg:home (σ s)=some g:=by rw[e1];rfl
   have hno:¬Own E.O (λy=>live st.heap y/\y≠s) σ g:=by
    rintro(ho|⟨y,⟨hy,hne⟩,ey⟩)
    . exact hs.apart g ho e2
    . exact hne (hs.holds.inj y s g hy hl ey hg)
   exact⟨σ,hs.frz hl rfl (by rw[e1];exact .ofMap hno (bj.1 e3).1 e3 (e4.mono λ_ _ h=>h.mono eO))⟩
 . rename_i m hf;obtain⟨σ,hs⟩:=h;have hl:live st.heap s:=ax.2 ⟨_,hf⟩;obtain⟨g,es,clock,e1,e2,e3,e4,e5⟩:=hs.holds.blk s _ hf;have hg:home (σ s)=some g:=by rw[e1];rfl
   have hno:¬Own E.O (λy=>live st.heap y/\y≠s) σ g:=by
    rintro(ho|⟨y,⟨hy,hne⟩,ey⟩)
    . exact hs.apart g ho e2
    . exact hne (hs.holds.inj y s g hy hl ey hg)
   refine⟨σ,hs.frz hl rfl ?_⟩;rw[e1];refine .ofMap hno (bj.1 e3).1 e3 ⟨⟨by simpa using e4.1,e4.2⟩,λj k v hj=>?_⟩;rw[aN]at hj;cases hp:m[j]? with
   |none=>rw[hp]at hj;cases hj
   |some p =>
    obtain⟨k0,v0⟩:=p;rw[hp]at hj;cases hj;obtain⟨e,h1,h2,h3⟩:=e5 j k0 v0 hp;exact⟨e,h1,.inl ⟨_,rfl,mK h2 rfl⟩,h3.mono eO⟩
 . rename_i cells hf;split
   . rename_i ds hv;obtain⟨σ,hs⟩:=h;have hl:live st.heap s:=ax.2 ⟨_,hf⟩;obtain⟨g,cur,t,e1,e2,e3,e4,e5⟩:=hs.holds.blk s _ hf;obtain⟨_,hget⟩:=bQ hv;have hg:home (σ s)=some g:=by rw[e1];rfl
     have hno:¬Own E.O (λy=>live st.heap y/\y≠s) σ g:=by
      rintro(ho|⟨y,⟨hy,hne⟩,ey⟩)
      . exact hs.apart g ho e2
      . exact hne (hs.holds.inj y s g hy hl ey hg)
     have key:∀j d,ds[j]? =some d->d.one=true/\j<cur.size/\Rep w (Own E.O (λy=>live st.heap y/\y≠s) σ) d (cur.getD j Go.undef):=λj d hj=>by
      obtain⟨c,hc,hf⟩:=hget j d hj;obtain⟨h1,h2⟩:=e5 j c hc;have hlt:j<cur.size:=by rw[e4];exact(aq.1 hc).1
      generalize cur.getD j Go.undef=u at h2
      cases c <;> simp only[dI]at hf <;> first|(cases hf;done)|skip
      case d y =>
       cases hf;refine⟨?_,hlt,?_⟩
       . rcases h1 with h1|h1
         . exact h1
         . cases h1
       . cases h2 with|d _ _ h2=>exact h2.mono eO
      case nil sz =>
       cases hf;refine⟨rfl,hlt,?_⟩;cases h2;exact .empty _ _ _
     refine⟨σ,hs.frz hl rfl ?_⟩;rw[e1];refine .ptr ds g 0 (λj=>cur.getD j Go.undef) hno (bj.1 e3).1 (λd hd=>?_) (λj d hj=>?_) (λj d hj=>(key j d hj).2.2)
     . obtain⟨j,hj⟩:=cd hd;exact(key j d hj).1
     . have:=(key j d hj).2.1;simp[World.cell?,e3,this]
   . exact h
 . exact h
theorem Sim.bw{cx:Cx}{E:Env}{a:Act}{w:World}:∀(l:List Nat) {st:St},Sim cx E st a w->Sim cx E (st.bw l) a w
 |[],st,h=>h
 |s::t,st,h=>Sim.bw t (h.freeze s)
def FnR(cx:Cx)(f:FuncId)(give:Bool)(e:TypeId)(sz:Nat)(rows:List (List D))(fl:Bool)(args:List D)(rows' :List (List D)):Prop :=
 ff cx.P f/\ ∀(O:Nat->Prop) (w:World) (v:Value) (vs:Array Value) (xs:List Value),(∀b,O b->b<w.heap.size)->iN cx w->(∀g cells,cx.gl g=some cells-> ¬O g)->(∀g,home v=some g->O g) ->
  w.ownsRow 0 e sz v rows.length xs->(fl=true-> ∃a,v= .slice a rows.length rows.length)->0<sz->(∀r∈rows,r.length=sz/\ ∀d∈r,d.one=true) ->
  (∀i r j d,rows[i]? =some r->r[j]? =some d-> ∃u,xs[i*sz+j]? =some u/\Rep w O d u)->vs.size=args.length->(∀(j:Nat) d,args[j]? =some d->Rep w O d (vs.getD j Go.undef)) ->
  Calls cx.P f (#[v]++vs) w λen w' => ∃v' xs',(match give with|true=>en= .returned v' |false=>en= .returned Go.undef/\v' =v)/\w'.os=w.os/\w'.tape=w.tape/\w'.output=w.output/\w.heap.size<=w'.heap.size /\
   (∀k,k<w.heap.size->home v≠some k->w'.heap[k]? =w.heap[k]?)/\(∀g,home v' =some g->home v=some g\/w.heap.size<=g)/\w'.ownsRow 0 e sz v' rows'.length xs' /\(∀r∈rows',r.length=sz/\ ∀d∈r,d.one=true) /\
   ∀i r j d,rows'[i]? =some r->r[j]? =some d-> ∃u,xs'[i*sz+j]? =some u/\Rep w' (λb=>(O b/\home v≠some b)\/home v' =some b) d u
def Ro(cx:Cx)(f:FuncId)(give:Bool)(e:TypeId)(sz:Nat)(rows:List (List D))(fl:Bool)(args:List D)(rows' :List (List D)):Prop :=
 ff cx.P f/\ ∀(O:Nat->Prop) (w:World) (v:Value) (vs:Array Value) (xs:List Value),(∀b,O b->b<w.heap.size)->iN cx w->(∀g cells,cx.gl g=some cells-> ¬O g)->(∀g,home v=some g->O g) ->
  w.ownsRow 0 e sz v rows.length xs->(fl=true-> ∃a,v= .slice a rows.length rows.length)->0<sz->(∀r∈rows,r.length=sz/\ ∀d∈r,d.one=true) ->
  (∀i r j d,rows[i]? =some r->r[j]? =some d-> ∃u,xs[i*sz+j]? =some u/\Rep w O d u)->vs.size=args.length->(∀(j:Nat) d,args[j]? =some d->Rep w O d (vs.getD j Go.undef)) ->
  Calls cx.P f (#[v]++vs) w λen w' => ∃v' xs',(match give with|true=>en= .returned v' |false=>en= .returned Go.undef/\v' =v)/\w'.os=w.os/\w'.tape=w.tape/\w'.output=w.output/\w.heap.size<=w'.heap.size /\
   (∀k,k<w.heap.size->home v≠some k->w'.heap[k]? =w.heap[k]?)/\(∀g,home v' =some g->home v=some g\/w.heap.size<=g)/\w'.ownsRow 0 e sz v' rows'.length xs' /\(∀r∈rows',r.length=sz/\ ∀d∈r,d.one=true) /\
   ∀i r j d,rows'[i]? =some r->r[j]? =some d-> ∃u,xs'[i*sz+j]? =some u/\Rep w O d u
theorem Qm{cx:Cx}{f:FuncId}{give:Bool}{e:TypeId}{sz:Nat}{rows:List (List D)}{fl:Bool}{args:List D}{rows' :List (List D)}(h:Ro cx f give e sz rows fl args rows'):FnR cx f give e sz rows fl args rows' :=by
 refine⟨h.1,λO w v vs xs hO hG hGO hv h1 h2 h3 h4 h5 h6 h7=>(h.2 O w v vs xs hO hG hGO hv h1 h2 h3 h4 h5 h6 h7).mono ?_⟩;rintro en w' ⟨v',xs',g1,q1,q2,q3,q4,q5,q6,q7,q8,q9⟩;refine⟨v',xs',g1,q1,q2,q3,q4,q5,q6,q7,q8,λi r j d hi hj=>?_⟩;obtain⟨u,hu,hd⟩:=q9 i r j d hi hj;refine⟨u,hu,hd.mono ⟨q4,λb hb hlt=>q5 b hlt λe=>hb (hv b e),λb hb hlt ho=>?_⟩⟩;rcases ho with ⟨ho,_⟩|ho
 . exact hb ho
 . rcases q6 b ho with e|e
   . exact hb (hv b e)
   . omega
theorem Sim.born{cx:Cx}{E:Env}{st:St}{a:Act}{w:World}(s:Nat)(e:TypeId)(sz' :Nat)(h2:find st.heap s=none)(h3:0<sz')(h4:s<100000)(h:Sim cx E st a w):∃σ,bq cx E ⟨st.slots,(s,.row e sz' [])::st.heap⟩ σ a w/\σ s= .slice none 0 0:=by
 obtain⟨σ,hs⟩:=h;have hn:¬live st.heap s:=by unfold live;rw[h2];simp
 let σ' :Nat->Value:=λx=>if x=s then .slice none 0 0 else σ x
 have e1:σ' s= .slice none 0 0:=if_pos rfl;have e2:∀x,live st.heap x->σ' x=σ x:=λx hl=>if_neg λ(e:x=s)=>hn (e ▸ hl)
 have hL:∀x,live ((s,Blk.row e sz' [])::st.heap) x ↔ x=s\/live st.heap x:=λx=>by
  have:=bW (bs:=[(s,Blk.row e sz' [])]) (h:=st.heap) (s:=x);rw[bH]at this;exact this
 have hk:aU w w (Own E.O (live st.heap) σ) (Own E.O (live ((s,Blk.row e sz' [])::st.heap)) σ'):=aU.less λb hb=>by
  rcases hb with hb|⟨x,hl,hx⟩
  . exact .inl hb
  . rcases (hL x).1 hl with rfl|hl
    . rw[e1]at hx;cases hx
    . rw[e2 x hl]at hx;exact .inr ⟨x,hl,hx⟩
 have hss:∀x,live st.heap x->live ((s,Blk.row e sz' [])::st.heap) x/\σ' x=σ x:=λx hl=>⟨(hL x).2 (.inr hl),e2 x hl⟩
 refine⟨σ',⟨hs.frame,hs.new,hs.apart,hs.defers,hs.nt,λq=>(hs.slots q).mono hk hss,⟨λx b hb=>?_,λx y b l l' f f' =>?_⟩,hs.glob,hs.globF,λq0 B hB=>⟨(hs.fix q0 B hB).1,λh=>?_⟩⟩,e1⟩
 . have hb' :find ((s,Blk.row e sz' [])::st.heap) x=some b:=hb;rw[eG]at hb';split at hb'
   . rename_i hx;subst hx;cases hb';exact⟨[],by rw[e1];exact World.ownsRow_nil w 0 e sz',(λb hb=>by rw[e1]at hb;cases hb),⟨h3,λe=>by cases e⟩,λr hr=>by simp at hr,λi r j d hi=>by simp at hi⟩
   . have hl:live st.heap x:=ax.2 ⟨b,hb'⟩;exact(hs.holds.blk x b hb').mono hk hss hl λg _=>rfl
 . rcases (hL x).1 l with rfl|l
   . rw[e1]at f;cases f
   . rcases (hL y).1 l' with rfl|l'
     . rw[e1]at f';cases f'
     . rw[e2 x l]at f;rw[e2 y l']at f';exact hs.holds.inj x y b l l' f f'
 . rcases (hL _).1 h with e|h
   . have hq0:=(hs.fix q0 B hB).1.2;omega
   . rw[e2 _ h];exact(hs.fix q0 B hB).2 h
def si:List AV->List Nat
 |[]=>[]
 | .own s::t=>s::si t
 |_::t=>si t
def Oq(cx:Cx)(st0:St)(d:Option Nat)(give:Bool)(f:FuncId)(args:List Operand)(ts:List TypeId)(k:AV->St->Prop):Prop :=
 let st:=st0.bw (si ((bM cx st0 args ts).drop 1))
 match bM cx st args ts with
 | .own s::rest=>(match find st.heap s,bN gF rest with
  |some (.row e sz rows fl),some ds=> ∃rows',FnR cx f give e sz rows fl ds rows' /\(match give with|true=>k (.own s) ⟨gC s st.slots,(s,.row e sz rows')::dM s st.heap⟩|false=>k (.tuple []) ⟨st.slots,(s,.row e sz rows')::st.heap⟩)
  |_,_=>False)
 | .nil _::rest=>(match d,ts with
  |some d,t::_=>(match bO cx t,find st.heap d,bN gF rest,give with
   |some (e,ei),none,some ds,true=>(match Nat.ble 1 ei.size,Nat.blt d 100000 with
    |true,true=> ∃rows',FnR cx f true e ei.size [] false ds rows' /\k (.own d) ⟨gC d st.slots,(d,.row e ei.size rows')::dM d ((d,.row e ei.size [])::st.heap)⟩
    |_,_=>False)
   |_,_,_,_=>False)
  |_,_=>False)
 |_=>False
theorem sA{cx:Cx}{sl:List (Nat×AV)}{h h' :List (Nat×Blk)}:∀(xs:List Operand) (ts:List TypeId),bM cx ⟨sl,h⟩ xs ts=bM cx ⟨sl,h'⟩ xs ts
 |[],_=>rfl
 |x::xs,t::ts=>by simp only[bM];rw[sA xs ts];cases x <;> rfl
 |x::xs,[]=>by simp only[bM];rw[sA xs []];cases x <;> rfl
def PE(give:Bool)(s:Nat):AV:=match give with|true=> .own s|false=> .tuple []
def PD(give:Bool)(s:Nat)(sl:List (Nat×AV)):List (Nat×AV):=match give with|true=>gC s sl|false=>sl
def PC(give:Bool)(s:Nat)(h:List (Nat×Blk)):List (Nat×Blk):=match give with|true=>dM s h|false=>h
theorem Hk{cx:Cx}{st:St}{o:Oper}{c:Call}{f:FuncId}{give:Bool}(ho:o.op= .call c)(hc:c.callee= .value (.func f)){s:Nat}{rest:List AV}{e:TypeId}{sz:Nat}{rows:List (List D)}{fl:Bool}{ds:List D}{rows' :List (List D)}{x0:Operand}{xr:List Operand}
 (hxr:c.args.toList=x0::xr) (hf:find st.heap s=some (.row e sz rows fl)) (hds:bN gF rest=some ds) (hFn:FnR cx f give e sz rows fl ds rows') {v:AV} (hv:v=PE give s) {E:Env} {a:Act} {w:World} {Q:Exit->Act->World->Prop} (hd:∀e,o.dst=some e->e<E.nt)
 {σ:Nat->Value} (hs:bq cx E st σ a w) (hv0:a.eval x0=σ s) (hlen:rest.length=xr.length) (l2:∀(j:Nat) cc,rest[j]? =some cc-> ∃x,xr[j]? =some x/\au w E.O (live st.heap) σ cc (a.eval x)) :
 o.wp cx.P a w (λa' w' =>Sim cx E ⟨bd (PD give s st.slots) o.dst v,(s,.row e sz rows')::PC give s st.heap⟩ a' w') Q:=by
 obtain⟨k1,k2⟩:=bQ hds;have hl:live st.heap s:=ax.2 ⟨_,hf⟩;obtain⟨xs,o1,o2,o3,o4,o5⟩:=hs.holds.blk s _ hf;have hvals:c.args.map a.eval= #[σ s]++(xr.map a.eval).toArray:=by
  rw[<- Array.toList_inj];simp[hxr,hv0]
 obtain⟨⟨fn,hf1,hf2,hf3⟩,hcall⟩:=hFn;have hf2' :¬fn.name= "runtime.NumGoroutine" :=by simpa using hf2
 have hf3' :¬fn.body=none:=by intro e;rw[e]at hf3;cases hf3
 have hrun:(execOp a.eval o).run cx.P w= .ok (.enter f (#[σ s]++(xr.map a.eval).toArray)) w:=by
  have:a.eval (.func f)= .func (.func f) #[] #[]:=rfl;rw[<- hvals];simp[execOp,ho,resolve,hc,this,Deferred.ofValue,invoke,callFunc,hf1,hf2',hf3']
 have hcalls:=hcall (Own E.O (live st.heap) σ) w (σ s) (xr.map a.eval).toArray xs (λb hb=>hs.pf b hb) hs.mU (λg cells hgl=>hs.pC hgl) (λg hg=> .inr ⟨s,hl,hg⟩) o1 o3.2 o3.1 o4 o5
  (by simp;omega)
  (λj d hj=>by
   obtain⟨cc,hcc,hfa⟩:=k2 j d hj;obtain⟨x,hx',hr⟩:=l2 j cc hcc;have:(xr.map a.eval).toArray.getD j Go.undef=a.eval x:=by simp[hx']
   rw[this];exact iC hfa hr)
 simp only[Oper.wp,hrun,Oper.upon];refine hcalls.mono λen w' =>?_
 rintro⟨v',xs',hen,q1,q2,q3,q4,q5,q6,q7,q8,q9⟩;obtain⟨u,hu,hru⟩:∃u,en= .returned u/\ ∀σ' :Nat->Value,σ' s=v' -> ∀w',au w' E.O (live st.heap) σ' v u:=by
  cases give with
  |true=>exact⟨v',hen,λσ' e1 w' =>by have hv:v= .own s:=hv;rw[hv];have:=au.own (w:=w') (O:=E.O) (σ:=σ') s hl;rw[e1]at this;exact this⟩
  |false=>exact⟨_,hen.1,λσ' e1 w' =>by have hv:v= .tuple []:=hv;rw[hv];exact .tuple [] #[] rfl λj c hj=>by simp at hj⟩
 subst hu;dsimp only;have hblk:∀σ' :Nat->Value,σ' s=v' ->(∀x,x≠s->σ' x=σ x)->cw w' E.F E.O (live st.heap) σ' s (.row e sz rows'):=λσ' e1 e2=>by
  refine⟨xs',by rw[e1];exact q7,λb hb=>?_,⟨o3.1,λe=>by cases e⟩,q8,λi r j d hi hj=>?_⟩
  . rw[e1]at hb;rcases q6 b hb with hb|hb
    . exact o2 b hb
    . exact hs.new b (Nat.le_trans hs.frame.size hb)
  . obtain⟨u,hu,hd⟩:=q9 i r j d hi hj;refine⟨u,hu,hd.mono (aU.less λb hb=>?_)⟩;rcases hb with hb|⟨y,hy,ey⟩
    . refine .inl ⟨.inl hb,λe=>?_⟩;exact hs.apart b hb ((hs.holds.home hl e).1)
    . by_cases hys:y=s
      . subst hys;rw[e1]at ey;exact .inr ey
      . rw[e2 y hys]at ey;exact .inl ⟨.inr ⟨y,hy,ey⟩,λe=>hys (hs.holds.inj y s b hy hl ey e)⟩
 cases give with
 |true=>exact hs.PN (τ:=v') hd hl (λaa e=>by rcases o1.2 with ⟨e',_⟩|⟨_,_,_,e',_⟩ <;> (rw[e']at e;cases e)) q1 q2 q3 q4 q5 q6 (λσ' e1 e2 hkeep=>hblk σ' e1 e2) (λσ' e1=>hru σ' e1 w')
 |false =>
  have hv' :v' =σ s:=hen.2;exact⟨σ,hs.Fl hd hl q1 q2 q3 q4 q5 (λ_=>hblk σ hv'.symm λ_ _=>rfl) (hru σ hv'.symm w')⟩
theorem RX{cx:Cx}{st0:St}{o:Oper}{c:Call}{f:FuncId}{give:Bool}{k:AV->St->Prop}(ho:o.op= .call c)(hc:c.callee= .value (.func f))(h:Oq cx st0 o.dst give f c.args.toList c.argTypes.toList k) :
 ∃v st1,iu cx o st0 ⟨bd st1.slots o.dst v,st1.heap⟩/\k v st1:=by
 unfold Oq at h;dsimp only at h;generalize hst:st0.bw (si ((bM cx st0 c.args.toList c.argTypes.toList).drop 1))=st at h;split at h
 . rename_i s rest harg;split at h
   . rename_i e sz rows fl ds hf hds;obtain⟨rows',hFn,hk⟩:=h;have hall:∀(v:AV),v=PE give s-> ∀(E:Env) a w (Q:Exit->Act->World->Prop),(∀e,o.dst=some e->e<E.nt)->Sim cx E st0 a w->o.wp cx.P a w (λa' w' =>Sim cx E ⟨bd (PD give s st.slots) o.dst v,(s,.row e sz rows')::PC give s st.heap⟩ a' w') Q:=by
      intro v hv E a w Q hd hs0;obtain⟨σ,hs⟩:Sim cx E st a w:=by rw[<- hst];exact hs0.bw _
      obtain⟨l1,l2⟩:=gM (St.le.refl st) hs c.args.toList c.argTypes.toList;rw[harg]at l1 l2;obtain⟨x0,hx0,hr0⟩:=l2 0 _ rfl;obtain⟨xr,hxr⟩:∃xr,c.args.toList=x0::xr:=by
       cases hcl:c.args.toList with
       |nil=>rw[hcl]at hx0;cases hx0
       |cons y ys=>rw[hcl]at hx0;cases hx0;exact⟨ys,rfl⟩
      have hv0:a.eval x0=σ s:=by generalize a.eval x0=u at hr0;cases hr0;rfl
      refine Hk ho hc hxr hf hds hFn hv hd hs hv0 ?_ λj cc hcc=>?_
      . rw[hxr]at l1;simp at l1;omega
      . obtain⟨x,hx,hr⟩:=l2 (j+1) cc (by simpa using hcc);rw[hxr]at hx;exact⟨x,by simpa using hx,hr⟩
     cases give with
     |true=>exact⟨.own s,⟨gC s st.slots,(s,.row e sz rows')::dM s st.heap⟩,hall _ rfl,hk⟩
     |false=>exact⟨.tuple [],⟨st.slots,(s,.row e sz rows')::st.heap⟩,hall _ rfl,hk⟩
   . exact h.elim
 . rename_i z rest harg;split at h
   . rename_i d t ts' hdst hts;split at h
     . rename_i e ei ds hse hfn hds;split at h
       . rename_i b1 b2;obtain⟨rows',hFn,hk⟩:=h;refine⟨.own d,_,λE a w Q hd hs0=>?_,hk⟩;obtain⟨σ0,hs00⟩:Sim cx E st a w:=by rw[<- hst];exact hs0.bw _
         obtain⟨l1,l2⟩:=gM (St.le.refl st) hs00 c.args.toList c.argTypes.toList;rw[harg]at l1 l2;obtain⟨x0,hx0,hr0⟩:=l2 0 _ rfl;obtain⟨xr,hxr⟩:∃xr,c.args.toList=x0::xr:=by
          cases hcl:c.args.toList with
          |nil=>rw[hcl]at hx0;cases hx0
          |cons y ys=>rw[hcl]at hx0;cases hx0;exact⟨ys,rfl⟩
         obtain⟨σ,hs,hσ⟩:=Sim.born d e ei.size hfn (ag b1) (Nat.lt_of_succ_le (ag b2)) ⟨σ0,hs00⟩;have hv0:a.eval x0=σ d:=by rw[hσ];generalize a.eval x0=u at hr0;cases hr0;rfl
         have hlist:bM cx ⟨st.slots,(d,.row e ei.size [])::st.heap⟩ c.args.toList c.argTypes.toList=AV.nil z::rest:=by rw[<- harg];exact sA _ _
         obtain⟨m1,m2⟩:=gM (St.le.refl _) hs c.args.toList c.argTypes.toList;rw[hlist]at m1 m2;refine Hk (st:=⟨st.slots,(d,.row e ei.size [])::st.heap⟩) (give:=true) ho hc hxr (by exact aP ..) hds hFn rfl hd hs hv0 ?_ λj cc hcc=>?_
         . rw[hxr]at m1;simp at m1;omega
         . obtain⟨x,hx,hr⟩:=m2 (j+1) cc (by simpa using hcc);rw[hxr]at hx;exact⟨x,by simpa using hx,hr⟩
       . exact h.elim
     . exact h.elim
   . exact h.elim
 . exact h.elim
def ye(cx:Cx)(st:St)(f:AV)(args:List AV)(k:AV->St->Prop):Prop :=
 match callee f with
 |some (g,a,b)=>(match a++args++b with
  | .ptr s 0::rest=>(match find st.heap s,bN gF rest with
   |some (.box cs),some ds=>(match bN dI cs with
    |some cells=> ∃v cells',FnB cx g cells ds v cells' /\k v ⟨st.slots,(s,.box (cells'.map .d))::st.heap⟩
    |none=>False)
   |_,_=>False)
  |_=>False)
 |none=>False
theorem CZ{cx:Cx}{st:St}{o:Oper}{c:Call}{f:Operand}{k:AV->St->Prop}(ho:o.op= .call c)(hc:c.callee= .value f)(h:ye cx st (st.ev cx f) (bM cx st c.args.toList c.argTypes.toList) k) :
 ∃v st1,iu cx o st ⟨bd st1.slots o.dst v,st1.heap⟩/\k v st1:=by
 unfold ye at h;split at h
 . rename_i g xs ys hg;split at h
   . rename_i s rest harg;split at h
     . rename_i cs ds hf hds;split at h
       . rename_i cells hcells;obtain⟨v,cells',hFn,hk⟩:=h;refine⟨v,_,λE a w Q hd ⟨σ,hs⟩=>?_,hk⟩;obtain⟨us,vs,hu,s1,s2,r1,r2⟩:=mP hg (hs.ev (St.le.refl st) f);obtain⟨l1,l2⟩:=gM (St.le.refl st) hs c.args.toList c.argTypes.toList;obtain⟨⟨fn,hf1,hf2,hf3⟩,hcall⟩:=hFn;have hf2' :¬fn.name= "runtime.NumGoroutine" :=by simpa using hf2
         have hf3' :¬fn.body=none:=by intro e;rw[e]at hf3;cases hf3
         have hrun:(execOp a.eval o).run cx.P w= .ok (.enter g (us++c.args.map a.eval++vs)) w:=by
          simp[execOp,ho,resolve,hc,hu,Deferred.ofValue,invoke,callFunc,hf1,hf2',hf3']
         have hall:=nk (R:=au w E.O (live st.heap) σ) (A:=xs) (B:=bM cx st c.args.toList c.argTypes.toList) (C:=ys) (ys:=c.args.map a.eval) s1 (by simp[l1]) r1 (λj cc hj=>by
          obtain⟨x,hx,hr⟩:=l2 j cc hj;have:(c.args.map a.eval).getD j Go.undef=a.eval x:=by rw[aW]at hx;simp[hx]
          rw[this];exact hr) r2
         have hsz:(us++c.args.map a.eval++vs).size=(AV.ptr s 0::rest).length:=by rw[<- harg];simp[s1,s2,l1]
         rw[harg]at hall;generalize us++c.args.map a.eval++vs=vals at hrun hall hsz;obtain⟨B,cur,t,e1,e2,e3,e4,e5⟩:=hs.holds.blk s _ hf;have hl:live st.heap s:=ax.2 ⟨_,hf⟩;have h0:vals.getD 0 Go.undef= .pointer (some ⟨B,0,none⟩):=by
          have:=hall 0 _ rfl;generalize vals.getD 0 Go.undef=u at this;cases this with|ptr _ _ b hL hσ=>rw[hσ]at e1;cases e1;rfl
         have hvals:vals= #[.pointer (some ⟨B,0,none⟩)]++vals.extract 1 vals.size:=by
          apply Array.ext
          . simp at hsz ⊢;omega
          . intro i h1 h2;rcases i with _|i
            . have:vals[0]=vals.getD 0 Go.undef:=by simp[h1]
              rw[this,h0];simp
            . simp[Array.getElem_append]
              congr 1;omega
         obtain⟨k1,k2⟩:=bQ hds;obtain⟨q1,q2⟩:=bQ hcells;have hcalls:=hcall (Own E.O (live st.heap) σ) w B cur t (vals.extract 1 vals.size) (λb hb=>hs.pf b hb) hs.mU (λg cells hgl=>hs.pC hgl) (.inr ⟨s,hl,by rw[e1];rfl⟩) e3 (by rw[e4,q1])
          (λj d hj=>by
           obtain⟨cc,hcc,hfr⟩:=q2 j d hj;refine⟨?_,gN hfr (e5 j cc hcc).2⟩;have h1:=(e5 j cc hcc).1;cases cc <;> simp[dI]at hfr
           . subst hfr;rcases h1 with h1|h1
             . exact h1
             . cases h1
           . subst hfr;rfl)
          (by simp at hsz ⊢;omega)
          (λj d hj=>by
           obtain⟨cc,hcc,hfa⟩:=k2 j d hj;have hr:=hall (j+1) cc (by simpa using hcc);have hlt:j+1<vals.size:=by rw[hsz];have:=(aq.1 hcc).1;simp;omega
           have:(vals.extract 1 vals.size).getD j Go.undef=vals.getD (j+1) Go.undef:=by
            simp[bp,Array.getElem?_extract,hlt,show j<vals.size-1 by omega,Nat.add_comm]
           rw[this];exact iC hfa hr)
         rw[<- hvals]at hcalls;simp only[Oper.wp,hrun,Oper.upon];refine hcalls.mono λen w' =>?_
         rintro⟨u,cur',t',rfl,p1,p2,p3,p4,p5,p6,p7,p8,p9⟩;dsimp only;have hk0:aU w' w' (Own (Own E.O (live st.heap) σ) (λ_=>False) (λ_=>Value.nilFunc)) (Own E.O (live st.heap) σ):=aU.less λb hb=> .inl hb
         refine⟨σ,hs.MD hd hl (by rw[e1];rfl) p1 p2 p3 p4 p5 (λhkeep=>?_) (p9.mono hk0 λs h=>h.elim)⟩;refine⟨B,cur',t',e1,e2,p6,by rw[p7,ao],λj c hj=>?_⟩;rw[aN]at hj;cases hc' :cells'[j]? with
         |none=>rw[hc']at hj;cases hj
         |some d=>rw[hc']at hj;cases hj;exact⟨.inl (p8 j d hc').1,.d _ _ (p8 j d hc').2⟩
       . exact h.elim
     . exact h.elim
   . exact h.elim
 . exact h.elim
def dF:List Nat->Nat->Bool
 |[],_=>false
 |x::t,i=>match Nat.beq x i with|true=>true|false=>dF t i
theorem iS:∀{l:List Nat} {i:Nat},dF l i=true->i∈l
 |[],_,h=>by cases h
 |x::t,i,h=>by
  simp only[dF]at h;split at h
  . rename_i e;rw[aO e];exact List.mem_cons_self ..
  . exact aZ _ (iS h)
def PG:Option Blk->Bool
 |some (.box _)=>true
 |_=>false
def cg(h:List (Nat×Blk)):List Nat:=(h.map (·.1)).filter λs=>Nat.ble 100000 s&&PG (find h s)
theorem jd{h:List (Nat×Blk)}{s:Nat}(hs:s∈cg h):100000<=s/\ ∃cells,find h s=some (.box cells):=by
 unfold cg at hs;rw[List.mem_filter,aH]at hs;refine⟨ag hs.2.1,?_⟩;have:=hs.2.2;unfold PG at this;split at this
 . rename_i cells e;exact⟨cells,e⟩
 . cases this
def di(h:List (Nat×Blk))(σ:Nat->Value)(b:Nat):Prop:= ∃s,live h s/\home (σ s)=some b
def FnH(cx:Cx)(f:FuncId)(args:List AV)(h:List (Nat×Blk))(x:AV)(h' :List (Nat×Blk)):Prop :=
 ff cx.P f/\ ∀(O:Nat->Prop) (w:World) (σ:Nat->Value) (vs:Array Value),(∀b,O b->b<w.heap.size)->iN cx w->(∀g cells,cx.gl g=some cells-> ¬O g/\ ¬di h σ g)->(∀b,O b-> ¬di h σ b) ->
  Holds w (di h σ) O h σ->vs.size=args.length->(∀(j:Nat) c,args[j]? =some c->au w O (live h) σ c (vs.getD j Go.undef)) ->
  Calls cx.P f vs w λen w' => ∃u σ',en= .returned u/\rO (λb=>di h σ b\/w.heap.size<=b) w w' /\Holds w' (λb=>di h σ b\/w.heap.size<=b) O h' σ' /\
   (∀s∈cg h,live h' s->σ' s=σ s)/\au w' O (live h') σ' x u
theorem cw.inF{w:World}{F F' O L:Nat->Prop}{σ:Nat->Value}{s:Nat}{b:Blk}(h:cw w F O L σ s b)(hF:∀g,NQ.home (σ s)=some g->F' g):cw w F' O L σ s b:=by
 cases b with
 |box cells =>
  obtain⟨b,cur,t,h1,h2,h3⟩:=h;exact⟨b,cur,t,h1,hF b (by rw[h1];rfl),h3⟩
 |row e size rows fl =>
  obtain⟨xs,h1,h2,h3⟩:=h;exact⟨xs,h1,hF,h3⟩
 |smap m =>
  obtain⟨b,es,clock,h1,h2,h3⟩:=h;exact⟨b,es,clock,h1,hF b (by rw[h1];rfl),h3⟩
 |kmap m =>
  obtain⟨b,es,clock,h1,h2,h3⟩:=h;exact⟨b,es,clock,h1,hF b (by rw[h1];rfl),h3⟩
 |arow e size rows =>
  obtain⟨b,cur,t,h1,h2,h3⟩:=h;exact⟨b,cur,t,h1,hF b (by rw[h1];rfl),h3⟩
 |tail e size rows=>exact⟨h.1,hF⟩
 |iter left cur=>exact⟨h.1,hF⟩
 |dg m =>
  obtain⟨b,es,clock,h1,h2,h3⟩:=h;exact⟨b,es,clock,h1,hF b (by rw[h1];rfl),h3⟩
theorem dP{α:Type}:∀{l:List (Nat×α)} {i:Nat} {x:α},find l i=some x->(i,x)∈l
 |[],_,_,h=>by cases h
 |(k,y)::t,i,x,h=>by
  simp only[find]at h;split at h
  . rename_i e;cases h;rw[aO e];exact List.mem_cons_self ..
  . exact aZ _ (dP h)
section
variable {w w' :World} {O O' L L' :Nat->Prop} {σ σ' :Nat->Value} {fx:List Nat}
end
def bI(fr:List Nat)(h:List (Nat×Blk)):List (Nat×Blk):=h.filter λp=>dF fr p.1
def dm(fr:List Nat)(h:List (Nat×Blk)):List (Nat×Blk):=h.filter λp=> !dF fr p.1
theorem mE(fr:List Nat)(s:Nat):∀h:List (Nat×Blk),find (bI fr h) s=if dF fr s=true then find h s else none
 |[]=>by unfold bI;simp[find]
 |(k,x)::t=>by
  have ih:=mE fr s t;unfold bI at ih ⊢;by_cases hk:dF fr k=true
  . rw[List.filter_cons_of_pos (by simpa using hk)];by_cases e:k=s
    . subst e;rw[aP,if_pos hk,aP]
    . rw[aQ _ _ e,ih,aQ _ _ e]
  . rw[List.filter_cons_of_neg (by simpa using hk),ih];by_cases e:k=s
    . subst e;rw[if_neg hk,if_neg hk]
    . rw[aQ _ _ e]
theorem oi(fr:List Nat)(s:Nat):∀h:List (Nat×Blk),find (dm fr h) s=if dF fr s=true then none else find h s
 |[]=>by unfold dm;simp[find]
 |(k,x)::t=>by
  have ih:=oi fr s t;unfold dm at ih ⊢;by_cases hk:dF fr k=true
  . rw[List.filter_cons_of_neg (by simp[hk]),ih];by_cases e:k=s
    . subst e;rw[if_pos hk,if_pos hk]
    . rw[aQ _ _ e]
  . rw[List.filter_cons_of_pos (by simpa using hk)];by_cases e:k=s
    . subst e;rw[aP,if_neg hk,aP]
    . rw[aQ _ _ e,ih,aQ _ _ e]
theorem pO{α:Type}(s:Nat):∀(a b:List (Nat×α)),find (a++b) s=match find a s with|some x=>some x|none=>find b s
 |[],b=>rfl
 |(k,x)::t,b=>by
  by_cases e:k=s
  . subst e;rw[List.cons_append,aP,aP]
  . rw[List.cons_append,aQ _ _ e,aQ _ _ e];exact pO s t b
def rS(nm:List Nat):AV->Bool
 | .d _=>true
 | .nil _=>true
 | .undef=>true
 | .ptr s _=>dF nm s
 | .own s=>dF nm s
 | .omap s=>dF nm s
 |_=>false
def fM(nm:List Nat):AV->Bool
 | .fn _ a b=>a.all (rS nm)&&b.all (rS nm)
 | .agg cs=>cs.all (rS nm)
 |v=>rS nm v
def Aa(nm:List Nat):Blk->Bool
 | .box cells=>cells.all (fM nm)
 | .row .. =>true
 | .smap _=>true
 | .kmap _=>true
 | .dg m=>m.all λp=>fM nm p.2
 | .arow _ _ rows=>rows.all λr=>r.all (fM nm)
 |_=>false
section
variable {w:World} {O O' L L' :Nat->Prop} {σ:Nat->Value} {nm:List Nat}
theorem nP{v:AV}{u:Value}(h:au w O L σ v u)(hv:rS nm v=true)(hL:∀s∈nm,L' s)(k:aU w w (Own O L σ) (Own O' L' σ)):au w O' L' σ v u:=by
 cases h with
 |undef=>exact .undef _
 |d x v h=>exact .d _ _ (h.mono k)
 |nil=>exact .nil _
 |ptr s off b _ h=>exact .ptr s off b (hL s (iS hv)) h
 |own s _=>exact .own s (hL s (iS hv))
 |omap s _=>exact .omap s (hL s (iS hv))
 |_=>cases hv
theorem mR{v:AV}{u:Value}(h:au w O L σ v u)(hv:fM nm v=true)(hL:∀s∈nm,L' s)(k:aU w w (Own O L σ) (Own O' L' σ)):au w O' L' σ v u:=by
 cases v with
 |fn f a b =>
  cases h with|fn _ _ _ xs vs hx hl h1 h2 =>
   simp only[fM,aH,ay]at hv;exact .fn _ _ _ _ _ hx hl (λj c hj=>nP (h1 j c hj) (hv.1 c (ar hj)) hL k) (λj c hj=>nP (h2 j c hj) (hv.2 c (ar hj)) hL k)
 |agg cs =>
  cases h with|agg _ vs hl hh =>
   simp only[fM,ay]at hv;exact .agg _ _ hl λj c hj=>nP (hh j c hj) (hv c (ar hj)) hL k
 |_=>exact nP h hv hL k
theorem AX{F:Nat->Prop}{s:Nat}{b:Blk}(h:cw w F O L σ s b)(hb:Aa nm b=true)(hL:∀s∈nm,L' s)(k:aU w w (Own O L σ) (Own O' L' σ)):cw w F O' L' σ s b:=by
 cases b with
 |box cells =>
  obtain⟨b,cur,t,h1,h2,h3,h4,h5⟩:=h;simp only[Aa,ay]at hb;exact⟨b,cur,t,h1,h2,h3,h4,λj c hj=>⟨(h5 j c hj).1,mR (h5 j c hj).2 (hb c (ar hj)) hL k⟩⟩
 |row e size rows fl =>
  obtain⟨xs,h1,h2,h3,h4,h5⟩:=h;exact⟨xs,h1,h2,h3,h4,λi r j d hi hj=>by obtain⟨u,hu,hr⟩:=h5 i r j d hi hj;exact⟨u,hu,hr.mono k⟩⟩
 |smap m =>
  obtain⟨b,es,clock,h1,h2,h3,h4,h5⟩:=h;exact⟨b,es,clock,h1,h2,h3,h4,λj kk v hj=>by obtain⟨e,he,hk,hv⟩:=h5 j kk v hj;exact⟨e,he,hk.mono k,hv.mono k⟩⟩
 |kmap m =>
  obtain⟨b,es,clock,h1,h2,h3,h4⟩:=h;exact⟨b,es,clock,h1,h2,h3,h4.mono λ_ _ h=>h.mono k⟩
 |arow e size rows =>
  obtain⟨b,cur,t,h1,h2,h3,h4,h5⟩:=h;simp only[Aa,ay]at hb;exact⟨b,cur,t,h1,h2,h3,h4,λi r j c hi hj=>⟨(h5 i r j c hi hj).1,mR (h5 i r j c hi hj).2 (hb r (ar hi) c (ar hj)) hL k⟩⟩
 |tail _ _ _=>cases hb
 |iter _ _=>cases hb
 |dg m =>
  obtain⟨b,es,clock,h1,h2,h3,h4,h5⟩:=h;simp only[Aa,ay]at hb;exact⟨b,es,clock,h1,h2,h3,h4,λj kk v hj=>by obtain⟨e,he,hk,hv⟩:=h5 j kk v hj;exact⟨e,he,hk,mR hv (hb _ (ar hj)) hL k⟩⟩
end
section
variable {w w' :World} {O O' L L' :Nat->Prop} {σ σ' :Nat->Value} {nm:List Nat}
theorem mQ{v:AV}{u:Value}(h:au w O L σ v u)(hv:rS nm v=true)(k:aU w w' (Own O L σ) (Own O' L' σ'))(hfx:∀s∈nm,L' s/\σ' s=σ s):au w' O' L' σ' v u:=by
 cases h with
 |undef=>exact .undef _
 |d x v h=>exact .d _ _ (h.mono k)
 |nil=>exact .nil _
 |ptr s off b _ h =>
  have:=hfx s (iS hv);exact .ptr s off b this.1 (this.2.trans h)
 |own s _ =>
  have:=hfx s (iS hv);rw[<- this.2];exact .own s this.1
 |omap s _ =>
  have:=hfx s (iS hv);rw[<- this.2];exact .omap s this.1
 |_=>cases hv
theorem jV{v:AV}{u:Value}(h:au w O L σ v u)(hv:fM nm v=true)(k:aU w w' (Own O L σ) (Own O' L' σ'))(hfx:∀s∈nm,L' s/\σ' s=σ s):au w' O' L' σ' v u:=by
 cases v with
 |fn f a b =>
  cases h with|fn _ _ _ xs vs hx hl h1 h2 =>
   simp only[fM,aH,ay]at hv;exact .fn _ _ _ _ _ hx hl (λj c hj=>mQ (h1 j c hj) (hv.1 c (ar hj)) k hfx) (λj c hj=>mQ (h2 j c hj) (hv.2 c (ar hj)) k hfx)
 |agg cs =>
  cases h with|agg _ vs hl hh =>
   simp only[fM,ay]at hv;exact .agg _ _ hl λj c hj=>mQ (hh j c hj) (hv c (ar hj)) k hfx
 |_=>exact mQ h hv k hfx
def tZ(nm:List Nat):Blk->Bool
 | .box cells=>cells.all (fM nm)
 | .arow _ _ rows=>rows.all λr=>r.all (fM nm)
 | .dg m=>m.all λp=>fM nm p.2
 |_=>true
theorem sC{F:Nat->Prop}{s:Nat}{b:Blk}(h:cw w F O L σ s b)(hb:tZ nm b=true)(hs:s∈nm)(hfx:∀s∈nm,L' s/\σ' s=σ s)(hg:∀g,NQ.home (σ s)=some g->w'.heap[g]? =w.heap[g]?)(k:aU w w' (Own O L σ) (Own O' L' σ')):cw w' F O' L' σ' s b:=by
 have e:=(hfx s hs).2;cases b with
 |box cells =>
  obtain⟨b,cur,t,h1,h2,h3,h4,h5⟩:=h;simp only[tZ,ay]at hb;exact⟨b,cur,t,e.trans h1,h2,(hg b (by rw[h1];rfl)).trans h3,h4,λj c hj=>⟨(h5 j c hj).1,jV (h5 j c hj).2 (hb c (ar hj)) k hfx⟩⟩
 |row e' size rows fl =>
  obtain⟨xs,h1,h2,h3,h4,h5⟩:=h;refine⟨xs,?_,?_,⟨h3.1,λq=>by rw[e];exact h3.2 q⟩,h4,λi r j d hi hj=>?_⟩
  . rw[e];refine⟨h1.1,?_⟩;rcases h1.2 with h|⟨g,cap,cur,e1,e2,e3,e4⟩
    . exact .inl h
    . exact .inr ⟨g,cap,cur,e1,e2,(hg g (by rw[e1];rfl)).trans e3,e4⟩
  . rw[e];exact h2
  . obtain⟨u,hu,hr⟩:=h5 i r j d hi hj;exact⟨u,hu,hr.mono k⟩
 |smap m =>
  obtain⟨b,es,clock,h1,h2,h3,h4,h5⟩:=h;exact⟨b,es,clock,e.trans h1,h2,(hg b (by rw[h1];rfl)).trans h3,h4,λj kk v hj=>by obtain⟨e,he,hk,hv⟩:=h5 j kk v hj;exact⟨e,he,hk.mono k,hv.mono k⟩⟩
 |kmap m =>
  obtain⟨b,es,clock,h1,h2,h3,h4⟩:=h;exact⟨b,es,clock,e.trans h1,h2,(hg b (by rw[h1];rfl)).trans h3,h4.mono λ_ _ h=>h.mono k⟩
 |dg m =>
  obtain⟨b,es,clock,h1,h2,h3,h4,h5⟩:=h;simp only[tZ,ay]at hb;exact⟨b,es,clock,e.trans h1,h2,(hg b (by rw[h1];rfl)).trans h3,h4,λj kk v hj=>by obtain⟨e,he,hk,hv⟩:=h5 j kk v hj;exact⟨e,he,hk,jV hv (hb _ (ar hj)) k hfx⟩⟩
 |arow e' size rows =>
  obtain⟨b,cur,t,h1,h2,h3,h4,h5⟩:=h;simp only[tZ,ay]at hb;exact⟨b,cur,t,e.trans h1,h2,(hg b (by rw[h1];rfl)).trans h3,h4,λi r j c hi hj=>⟨(h5 i r j c hi hj).1,jV (h5 i r j c hi hj).2 (hb r (ar hi) c (ar hj)) k hfx⟩⟩
 |tail e' size rows =>
  show gS w' _ e' size rows (σ' s)/\_
  rw[e];exact⟨h.1.mono hg λ_ _ hr=>hr.mono k,h.2⟩
 |iter left cur =>
  show oc w' _ left cur (σ' s)/\_
  rw[e];exact⟨h.1.mono hg k,h.2⟩
end
def qK(fx:List Nat)(sl:List (Nat×AV)):List (Nat×AV):=sl.map λp=>(p.1,if fM fx p.2=true then p.2 else .undef)
theorem pb(fx:List Nat)(t:Nat):∀sl:List (Nat×AV),find (qK fx sl) t=(find sl t).map λv=>if fM fx v=true then v else .undef
 |[]=>rfl
 |p::r=>by
  show find ((p.1,if fM fx p.2=true then p.2 else .undef)::qK fx r) t=_
  by_cases h:p.1=t
  . subst h;rw[aP,show p::r=(p.1,p.2)::r from rfl,aP];rfl
  . rw[aQ _ _ h,show p::r=(p.1,p.2)::r from rfl,aQ _ _ h];exact pb fx t r
def uJ(cx:Cx)(st:St)(f:AV)(args:List AV)(k:AV->St->Prop):Prop :=
 match callee f with
 | some (g, a, b) => ∃ (fr : List Nat) (x : AV) (h' : List (Nat × Blk)), FnH cx g (a ++ args ++ b) (dm fr st.heap) x h' /\
     (((cg (dm fr st.heap)).all (λs=>(find h' s).isSome)=true/\(h'.map (·.1)).all (λs=>(Nat.blt s 100000||dF (cg (dm fr st.heap)) s)&& !dF fr s)=true) /\
      ((a++args++b).all (fM ((dm fr st.heap).map (·.1)))=true/\(dm fr st.heap).all (λp=>Aa ((dm fr st.heap).map (·.1)) p.2)=true/\(bI fr st.heap).all (λp=>tZ ((bI fr st.heap).map (·.1)) p.2)=true))/\k x ⟨qK (cg (dm fr st.heap)++(bI fr st.heap).map (·.1)) st.slots,bI fr st.heap++h'⟩
 |none=>False
theorem xx{cx:Cx}{st:St}{o:Oper}{c:Call}{f:Operand}{k:AV->St->Prop}(ho:o.op= .call c)(hc:c.callee= .value f)(h:uJ cx st (st.ev cx f) (bM cx st c.args.toList c.argTypes.toList) k) :
 ∃v st1,iu cx o st ⟨bd st1.slots o.dst v,st1.heap⟩/\k v st1:=by
 unfold uJ at h;split at h
 . rename_i g xs ys hg;obtain⟨fr,x,h',hFn,⟨⟨c1,c2⟩,c4,c5,c6⟩,hk⟩:=h;refine⟨x,⟨qK (cg (dm fr st.heap)++(bI fr st.heap).map (·.1)) st.slots,bI fr st.heap++h'⟩,λE a w Q hd ⟨σ,hs⟩=>?_,hk⟩;obtain⟨us,vs,hu,s1,s2,r1,r2⟩:=mP hg (hs.ev (St.le.refl st) f);obtain⟨l1,l2⟩:=gM (St.le.refl st) hs c.args.toList c.argTypes.toList;obtain⟨⟨fn,hf1,hf2,hf3⟩,hcall⟩:=hFn;have hf2' :¬fn.name= "runtime.NumGoroutine" :=by simpa using hf2
   have hf3' :¬fn.body=none:=by intro e;rw[e]at hf3;cases hf3
   have hrun:(execOp a.eval o).run cx.P w= .ok (.enter g (us++c.args.map a.eval++vs)) w:=by
    simp[execOp,ho,resolve,hc,hu,Deferred.ofValue,invoke,callFunc,hf1,hf2',hf3']
   have hall:=nk (R:=au w E.O (live st.heap) σ) (A:=xs) (B:=bM cx st c.args.toList c.argTypes.toList) (C:=ys) (ys:=c.args.map a.eval) s1 (by simp[l1]) r1 (λj cc hj=>by
    obtain⟨x,hx,hr⟩:=l2 j cc hj;have:(c.args.map a.eval).getD j Go.undef=a.eval x:=by rw[aW]at hx;simp[hx]
    rw[this];exact hr) r2
   have hsz:(us++c.args.map a.eval++vs).size=(xs++bM cx st c.args.toList c.argTypes.toList++ys).length:=by simp[s1,s2,l1]
   have lvH:∀s,live (dm fr st.heap) s ↔ live st.heap s/\dF fr s=false:=λs=>by
    unfold live;rw[oi];cases dF fr s <;> simp
   have lvE:∀s,live (bI fr st.heap) s ↔ live st.heap s/\dF fr s=true:=λs=>by
    unfold live;rw[mE];cases dF fr s <;> simp
   obtain⟨O',hO'⟩:∃O' :Nat->Prop,O' =λb=>E.O b\/di (bI fr st.heap) σ b:=⟨_,rfl⟩
   have hin:∀b,di (bI fr st.heap) σ b->E.F b/\b<w.heap.size:=λb ⟨s,hl,e⟩=>hs.holds.home ((lvE s).1 hl).1 e
   have hinH:∀b,di (dm fr st.heap) σ b->E.F b/\b<w.heap.size:=λb ⟨s,hl,e⟩=>hs.holds.home ((lvH s).1 hl).1 e
   have hdis:∀b,di (bI fr st.heap) σ b-> ¬di (dm fr st.heap) σ b:=λb ⟨s,hl,e⟩ ⟨s',hl',e'⟩=>by
    have:=hs.holds.inj s s' b ((lvE s).1 hl).1 ((lvH s').1 hl').1 e e';subst this;have h1:=((lvE s).1 hl).2;rw[((lvH s).1 hl').2]at h1;cases h1
   have hOwn:∀b,Own O' (live (dm fr st.heap)) σ b ↔ Own E.O (live st.heap) σ b:=λb=>by
    rw[hO'];constructor
    . rintro((hb|⟨s,hl,e⟩)|⟨s,hl,e⟩)
      . exact .inl hb
      . exact .inr ⟨s,((lvE s).1 hl).1,e⟩
      . exact .inr ⟨s,((lvH s).1 hl).1,e⟩
    . rintro(hb|⟨s,hl,e⟩)
      . exact .inl (.inl hb)
      . cases hf:dF fr s with
        |true=>exact .inl (.inr ⟨s,(lvE s).2 ⟨hl,hf⟩,e⟩)
        |false=>exact .inr ⟨s,(lvH s).2 ⟨hl,hf⟩,e⟩
   have hkH:aU w w (Own E.O (live st.heap) σ) (Own O' (live (dm fr st.heap)) σ):=aU.less λb hb=>(hOwn b).1 hb
   have hnm:∀s∈(dm fr st.heap).map (·.1),live (dm fr st.heap) s:=λs hm=>by
    obtain⟨p,hp,rfl⟩:=List.mem_map.1 hm;have hp' :=List.mem_filter.1 hp;refine(lvH p.1).2 ⟨?_,by simpa using hp'.2⟩;have:∀(l:List (Nat×Blk)),p∈l->live l p.1:=λl=>by
     induction l with
     |nil=>intro h;cases h
     |cons q t ih =>
      intro hm;by_cases e:q.1=p.1
      . exact ax.2 ⟨q.2,by rw[<- e];exact aP ..⟩
      . rcases List.mem_cons.1 hm with rfl|hm
        . exact absurd rfl e
        . obtain⟨b,hb⟩:=ax.1 (ih hm);exact ax.2 ⟨b,by rw[show q=(q.1,q.2)from rfl,aQ _ _ e];exact hb⟩
    exact this _ hp'.1
   have hcalls := hcall O' w σ (us ++ c.args.map a.eval ++ vs) (fun b hb => by
       rw[hO']at hb;rcases hb with hb|hb
       . exact hs.pf b (.inl hb)
       . exact(hin b hb).2) hs.mU (λg cells hgl=>by
       obtain⟨g1,g2⟩:=hs.globF g cells hgl;refine⟨λhg=>?_,λhg=>g1 (hinH g hg).1⟩;rw[hO']at hg;rcases hg with hg|hg
       . exact g2 hg
       . exact g1 (hin g hg).1)
    (λb hb hH=>by
     rw[hO']at hb;rcases hb with hb|hb
     . exact hs.apart b hb (hinH b hH).1
     . exact hdis b hb hH) ⟨λs b hb=>by
       have hb' :find st.heap s=some b:=by
        rw[oi]at hb;split at hb
        . cases hb
        . exact hb
       have hm:=ay.1 c5 _ (dP hb);exact((AX (hs.holds.blk s b hb') hm hnm hkH)).inF λg hg=>⟨s,ax.2 ⟨b,hb⟩,hg⟩,λs s' b hl hl' =>hs.holds.inj s s' b ((lvH s).1 hl).1 ((lvH s').1 hl').1⟩ hsz
    (λj cc hj=>mR (hall j cc hj) (ay.1 c4 cc (ar hj)) hnm hkH)
   simp only[Oper.wp,hrun,Oper.upon];refine hcalls.mono λen w' =>?_
   rintro⟨u,σ',rfl,hfr,hho,hfix,hrep⟩;dsimp only;have hF:∀b,(di (dm fr st.heap) σ b\/w.heap.size<=b)->E.F b:=λb hb=>by
    rcases hb with hb|hb
    . exact(hinH b hb).1
    . exact hs.new b (Nat.le_trans hs.frame.size hb)
   have hnf:∀s,live h' s->dF fr s=false:=λs hl=>by
    obtain⟨b,hb⟩:=ax.1 hl;have:=ay.1 c2 s (List.mem_map.2 ⟨_,dP hb,rfl⟩);rw[aH]at this;simpa using this.2
   have lvN:∀s,live (bI fr st.heap++h') s ↔ live (bI fr st.heap) s\/live h' s:=λs=>by
    unfold live;rw[pO];cases find (bI fr st.heap) s <;> simp
   obtain⟨τ,hτ⟩:∃τ:Nat->Value,τ=λs=>if dF fr s=true then σ s else σ' s:=⟨_,rfl⟩
   have tE:∀s,live (bI fr st.heap) s->τ s=σ s:=λs hl=>by rw[hτ];exact if_pos ((lvE s).1 hl).2
   have tH:∀s,live h' s->τ s=σ' s:=λs hl=>by rw[hτ];exact if_neg (by rw[hnf s hl];simp)
   have hOwn2:∀b,Own E.O (live (bI fr st.heap++h')) τ b->Own O' (live h') σ' b:=λb hb=>by
    rw[hO'];rcases hb with hb|⟨s,hl,e⟩
    . exact .inl (.inl hb)
    . rcases (lvN s).1 hl with hl|hl
      . exact .inl (.inr ⟨s,hl,by rw[<- tE s hl];exact e⟩)
      . exact .inr ⟨s,hl,by rw[<- tH s hl];exact e⟩
   have hk2:aU w' w' (Own O' (live h') σ') (Own E.O (live (bI fr st.heap++h')) τ):=aU.less hOwn2;have hkeep:aU w w' (Own E.O (live st.heap) σ) (Own E.O (live (bI fr st.heap++h')) τ):=by
    refine⟨hfr.size,λb hb hlt=>hfr.block b λhh=>?_,λb hb hlt ho' =>?_⟩
    . rcases hh with ⟨s,hl,e⟩|hh
      . exact hb (.inr ⟨s,((lvH s).1 hl).1,e⟩)
      . omega
    . have ho' :=hOwn2 b ho';rw[hO']at ho';rcases ho' with (ho' |⟨s,hl,e⟩)|⟨s,hl,e⟩
      . exact hb (.inl ho')
      . exact hb (.inr ⟨s,((lvE s).1 hl).1,e⟩)
      . rcases (hho.home hl e).1 with ⟨s',hl',e'⟩|hh
        . exact hb (.inr ⟨s',((lvH s').1 hl').1,e'⟩)
        . omega
   have hfx:∀s∈cg (dm fr st.heap)++(bI fr st.heap).map (·.1),live (bI fr st.heap++h') s/\τ s=σ s:=λs hm=>by
    rcases List.mem_append.1 hm with hm|hm
    . have hl:live h' s:=ay.1 c1 s hm;exact⟨(lvN s).2 (.inr hl),by rw[tH s hl];exact hfix s hm hl⟩
    . obtain⟨p,hp,rfl⟩:=List.mem_map.1 hm;have hp' :=List.mem_filter.1 hp;have hl:live (bI fr st.heap) p.1:=by
       have:∀(l:List (Nat×Blk)),p∈l->live l p.1:=λl=>by
        induction l with
        |nil=>intro h;cases h
        |cons q t ih =>
         intro hm;by_cases e:q.1=p.1
         . exact ax.2 ⟨q.2,by rw[<- e];exact aP ..⟩
         . rcases List.mem_cons.1 hm with rfl|hm
           . exact absurd rfl e
           . obtain⟨b,hb⟩:=ax.1 (ih hm);exact ax.2 ⟨b,by rw[show q=(q.1,q.2)from rfl,aQ _ _ e];exact hb⟩
       exact this _ hp
      exact⟨(lvN _).2 (.inl hl),tE _ hl⟩
   have hbE:∀s b,find (bI fr st.heap) s=some b->cw w' E.F E.O (live (bI fr st.heap++h')) τ s b:=λs b hb=>by
    have hl:live (bI fr st.heap) s:=ax.2 ⟨b,hb⟩;have hb' :find st.heap s=some b:=by
     rw[mE]at hb;split at hb
     . exact hb
     . cases hb
    have hpl:=ay.1 c6 _ (dP hb);have hold:=hs.holds.blk s b hb';refine sC hold hpl (List.mem_map.2 ⟨_,dP hb,rfl⟩) (λx hx=>hfx x (List.mem_append.2 (.inr hx))) (λg hg=>hfr.block g λhh=>?_) hkeep;have hgE:di (bI fr st.heap) σ g:=⟨s,hl,hg⟩
    rcases hh with hh|hh
    . exact hdis g hgE hh
    . have:=(hin g hgE).2;omega
   refine⟨τ,⟨hfr.os.trans hs.frame.os,hfr.tape.trans hs.frame.tape,hfr.output.trans hs.frame.output,Nat.le_trans hs.frame.size hfr.size,λb hb=>(hfr.block b λhh=>hb (hF b hh)).trans (hs.frame.block b hb)⟩,
    hs.new,hs.apart,?_,?_,λt=>?_,⟨λs b hb=>?_,λs s' b hl hl' e e' =>?_⟩,hs.glob,hs.globF,λq0 B hB=>?_⟩
   . cases o.dst <;> exact hs.defers
   . cases o.dst <;> simp[Act.put,hs.nt]
   . show au w' E.O (live (bI fr st.heap++h')) τ (St.get (St.put ⟨qK (cg (dm fr st.heap)++(bI fr st.heap).map (·.1)) st.slots,bI fr st.heap++h'⟩ o.dst x []) t) _
     rw[St.eV,gV (by rw[hs.nt];exact hd)];by_cases e:o.dst=some t
     . rw[if_pos e,if_pos e];exact hrep.mono hk2 λs hl=>⟨(lvN s).2 (.inr hl),tH s hl⟩
     . rw[if_neg e,if_neg e];have hr:=hs.slots t;unfold St.get at hr ⊢;rw[pb];cases hf:find st.slots t with
       |none=>exact .undef _
       |some v =>
        rw[hf]at hr;dsimp only[Option.map_some];by_cases hv:fM (cg (dm fr st.heap)++(bI fr st.heap).map (·.1)) v=true
        . rw[if_pos hv];exact jV hr hv hkeep hfx
        . rw[if_neg hv];exact .undef _
   . rw[pO]at hb;cases he:find (bI fr st.heap) s with
     |some b' =>rw[he]at hb;cases hb;exact hbE s _ he
     |none =>
      rw[he]at hb;have hl:live h' s:=ax.2 ⟨b,hb⟩;exact(cw.mono hk2 (λs hl=>⟨(lvN s).2 (.inr hl),tH s hl⟩) hl (λ_ _=>rfl) (hho.blk s b hb)).inF λg hg=>hF g (hho.home hl (by rw[<- tH s hl];exact hg)).1
   . have key:∀s s',live (bI fr st.heap) s->live h' s' ->home (τ s)=some b->home (τ s')=some b->False:=λs s' h1 h2 k1 k2=>by
      rw[tE s h1]at k1;rw[tH s' h2]at k2;have hg:di (bI fr st.heap) σ b:=⟨s,h1,k1⟩
      rcases (hho.home h2 k2).1 with hh|hh
      . exact hdis b hg hh
      . have:=(hin b hg).2;omega
     rcases (lvN s).1 hl with h1|h1
     . rcases (lvN s').1 hl' with h2|h2
       . exact hs.holds.inj s s' b ((lvE s).1 h1).1 ((lvE s').1 h2).1 (by rw[<- tE s h1];exact e) (by rw[<- tE s' h2];exact e')
       . exact(key s s' h1 h2 e e').elim
     . rcases (lvN s').1 hl' with h2|h2
       . exact(key s' s h2 h1 e' e).elim
       . exact hho.inj s s' b h1 h2 (by rw[<- tH s h1];exact e) (by rw[<- tH s' h2];exact e')
   . obtain⟨f1,f2⟩:=hs.fix q0 B hB;refine⟨f1,λhl=>?_⟩;rcases (lvN q0).1 hl with hl|hl
     . rw[tE q0 hl];exact f2 ((lvE q0).1 hl).1
     . obtain⟨b,hb⟩:=ax.1 hl;have hm:=ay.1 c2 q0 (List.mem_map.2 ⟨_,dP hb,rfl⟩);rw[aH,Bool.or_eq_true]at hm;rcases hm.1 with hm|hm
       . have:=Nat.lt_of_succ_le (ag hm);omega
       . have hb' :=iS hm;obtain⟨_,cells,hc'⟩:=jd hb';rw[tH q0 hl,hfix q0 hb' hl];exact f2 ((lvH q0).1 (ax.2 ⟨_,hc'⟩)).1
 . exact h.elim
section
variable {cx:Cx} {st:St} {E:Env} {σ:Nat->Value} {a:Act} {w:World}
theorem OV(hs:bq cx E st σ a w){size:Nat}(hsz:1<=size){rows2:List (List D)}(p1:∀r∈rows2,r.length=size/\ ∀d∈r,d.one=true){B off:Nat}
 (p3:∀i r j d,rows2[i]? =some r->r[j]? =some d-> ∃v,w.cell? ⟨B,off+(i*size+j),none⟩=some v/\Rep w (Own E.O (live st.heap) σ) d v) :
 ∃news:List Value,news.length=rows2.length*size/\(∀j u,news[j]? =some u->w.cell? ((⟨B,off,none⟩:Addr).add j)=some u)/\(∀u∈news,u.oneCell' =true) /\
  ∀i r j d,rows2[i]? =some r->r[j]? =some d-> ∃z,news[i*size+j]? =some z/\Rep w (Own E.O (live st.heap) σ) d z:=by
 let f:Nat->Value:=λq=>(w.cell? ⟨B,off+q,none⟩).getD Go.undef
 have hcell:∀q,q<rows2.length*size->w.cell? ⟨B,off+q,none⟩=some (f q)/\(f q).oneCell' =true:=λq hlt=>by
  have h1:q / size<rows2.length:=Nat.div_lt_of_lt_mul (by rw[Nat.mul_comm];exact hlt);have h2:=aj h1;have h3:=p1 _ (List.getElem_mem h1);have h4:q % size<(rows2[q / size]).length:=by rw[h3.1];exact Nat.mod_lt _ hsz
  obtain⟨z,hz,hd⟩:=p3 _ _ _ _ h2 (aj h4);have hdm:q / size*size+q % size=q:=by rw[Nat.mul_comm];exact Nat.div_add_mod q size
  rw[hdm]at hz;have e:f q=z:=by simp[f,hz]
  rw[e];exact⟨hz,hd.im (h3.2 _ (List.getElem_mem h4))⟩
 refine⟨(List.range (rows2.length*size)).map f,by simp,λj u hj=>?_,λu hu=>?_,λi r j d hi hj=>?_⟩
 . have hlt:j<rows2.length*size:=by have:=(aq.1 hj).1;simpa using this
   rw[cC];have:f j=u:=by simpa [hlt] using hj
   rw[<- this];exact(hcell j hlt).1
 . obtain⟨q,hq,rfl⟩:=List.mem_map.1 hu;exact(hcell q (by simpa using hq)).2
 . obtain⟨z,hz,hd⟩:=p3 i r j d hi hj;have hlt:i*size+j<rows2.length*size:=by
    have h1:=(aq.1 hi).1;have h2:=(aq.1 hj).1;rw[(p1 r (ar hi)).1]at h2;have:(i+1)*size<=rows2.length*size:=Nat.mul_le_mul_right _ h1;rw[Nat.add_mul]at this;omega
   refine⟨z,?_,hd⟩;have:f (i*size+j)=z:=by simp[f,hz]
   simp[hlt,this]
theorem HA{w:World}{R:D->Value->Prop}{e:TypeId}{size:Nat}{rows:List (List D)}{b off cap:Nat}{cur:Array Value}{ys:List Value}(hz:0<size)(hc:rows.length<=cap)(hm:cap<=maxLen)(h1:∀r∈rows,r.length=size/\ ∀d∈r,d.one=true)
 (hb:w.heap[b]? =some (.cells cur e (0,0))) (hs:off+cap*size<=cur.size) (hy:∀j u,ys[j]? =some u->cur[off+j]? =some u) (h:∀i r j d,rows[i]? =some r->r[j]? =some d-> ∃u,ys[i*size+j]? =some u/\R d u) :
 gS w R e size rows (.slice (some ⟨b,off,none⟩) rows.length cap) :=
 ⟨_,cap,rfl,⟨hz,hc,hm⟩,h1,.inr ⟨b,off,cur,rfl,hb,hs,λi r j d hi hj=>by
  obtain⟨u,hu,hr⟩:=h i r j d hi hj;exact⟨u,hy _ u hu,hr⟩⟩⟩
theorem zL(hT:ba cx)(hs:bq cx E st σ a w){t e ty:TypeId}{ei:TI}(hse:bO cx t=some (e,ei))(hsz:1<=ei.size){x:AV}{rows2:List (List D)}(hx:nM st x=some (ei.size,rows2)){u v:Value}(hr:au w E.O (live st.heap) σ x u)
 {rows:List (List D)} (hv:gS w (Rep w (Own E.O (live st.heap) σ)) e ei.size rows v) (hb1:rows.length+rows2.length<=maxLen) (hb2:(rows.length+rows2.length)*ei.bytes<=140737488355328) :
 ∃v' w',(Builtin.append_ #[t,t] ty #[v,u]).run cx.P w= .ok v' w' /\w'.os=w.os/\w'.tape=w.tape/\w'.output=w.output/\w.heap.size<=w'.heap.size/\(∀k,k<w.heap.size->home v≠some k->w'.heap[k]? =w.heap[k]?) /\
  (∀g,home v' =some g->home v=some g\/w.heap.size<=g)/\gS w' (Rep w (Own E.O (live st.heap) σ)) e ei.size (rows++rows2) v' :=by
 obtain⟨ti,ht,hkd,hei⟩:=bP hse;obtain⟨_,_,_,_,t2,t3,_⟩:=hT _ _ ht;rw[hkd]at t3;obtain rfl:=bE t3;obtain⟨info,desc,zv,i1,i2,i3,i4,i5,i6,i7,i8,i9,i10⟩:=hT _ _ hei;obtain⟨ad,c,rfl,p1,p2⟩:=AN hs hx hr;have hm63:rows.length+rows2.length<=9223372036854775807:=by simpa [maxLen] using hb1
 by_cases hne:rows2=[]
 . subst hne;obtain⟨aa,cap,rfl,⟨k1,k2,k3⟩,k4,k5⟩:=hv;refine⟨_,w,mw cx.P w t2 i1 k2 ad c,rfl,rfl,rfl,Nat.le_refl _,λ_ _ _=>rfl,λg hg=> .inl hg,?_⟩;rw[List.append_nil];exact⟨aa,cap,rfl,⟨k1,k2,k3⟩,k4,k5⟩
 obtain⟨B,off2,rfl,p3⟩:=p2 hne;obtain⟨news,n1,n2,n3,n4⟩:=OV hs hsz p1 p3;have hpos:0<rows2.length:=List.length_pos_iff.2 hne;obtain⟨aa,cap,rfl,⟨k1,k2,k3⟩,k4,k5⟩:=hv;have hall:∀r∈rows++rows2,r.length=ei.size/\ ∀d∈r,d.one=true:=λr hr=>by
  rcases List.mem_append.1 hr with hr|hr
  . exact k4 r hr
  . exact p1 r hr
 have hzl:zv.cells.size=ei.size:=by rw[i7, <- i8]
 have fresh : ∀ (old : Nat) (xs : List Value), xs.length = rows.length * ei.size -> (∀ i r j d, rows[i]? = some r -> r[j]? = some d -> ∃ u, xs[i * ei.size + j]? = some u /\ Rep w (Own E.O (live st.heap) σ) d u) ->
     gS (w.drew.alloc (.cells (xs.toArray++news.toArray++Builtin.zeroCells zv.cells (grownCap w (rows.length+rows2.length) old e-(rows.length+rows2.length))) e)) (Rep w (Own E.O (live st.heap) σ)) e ei.size (rows++rows2)
      (.slice (some ⟨w.heap.size,0,none⟩) (rows.length+rows2.length) (grownCap w (rows.length+rows2.length) old e)):=by
  intro old xs hxl hxs;have hge:=grownCap_ge w (rows.length+rows2.length) old e;have hcm:=grownCap_le_maxLen w (rows.length+rows2.length) old e hb1;have:=HA (w:=w.drew.alloc (.cells (xs.toArray++news.toArray++Builtin.zeroCells zv.cells (grownCap w (rows.length+rows2.length) old e-(rows.length+rows2.length))) e)) (R:=Rep w (Own E.O (live st.heap) σ)) (rows:=rows++rows2) (b:=w.heap.size) (off:=0) (cap:=grownCap w (rows.length+rows2.length) old e) (ys:=xs++news) k1 (by rw[List.length_append];exact hge) hcm hall (heap_alloc_new w.drew _)
   (by simp only[Array.size_append,List.size_toArray,size_zeroCells,hzl,hxl,n1, <- Nat.add_mul,Nat.zero_add];exact Nat.mul_le_mul_right _ (by omega))
   (λj u hj=>by
    have hlt:=(aq.1 hj).1;rw[Nat.zero_add,Array.getElem?_append_left (by simpa using hlt), <- aW];simpa using hj)
   (λi r j d hi hj=>lQ (w:=w) (w' :=w) hxl (aU.refl w _) hxs n4 i r j d hi hj)
  rw[List.length_append]at this;exact this
 rcases k5 with ⟨rfl,hc0⟩|⟨g,off,cur,rfl,hg,hfit,hget⟩
 . subst hc0;obtain rfl:rows=[]:=List.eq_nil_of_length_eq_zero (by omega);have hrun:=run_append_nil (P:=cx.P) w t ty e info zv t2 i1 i6 ⟨B,off2,none⟩ rows2.length c news (by rw[i4];exact n1) n2 hpos (by simp at hm63;omega) (by rw[i5];simp at hb2;omega);refine⟨_,_,hrun,rfl,rfl,rfl,by simp,λk hk _=>heap_alloc_old w.drew _ hk,λg hg=>by cases hg;exact .inr (Nat.le_refl _),?_⟩;have:=fresh 0 [] (by simp) (λi r j d hi=>by simp at hi);simpa using this
 . by_cases hroom:rows.length+rows2.length<=cap
   . have hmul:rows.length*ei.size+rows2.length*ei.size<=cap*ei.size:=by rw[<- Nat.add_mul];exact Nat.mul_le_mul_right _ hroom
     have hst:=run_storeCells_at cx.P g (off+rows.length*ei.size) e news 0 cur w hg (by rw[n1];omega) n3;simp only[Nat.add_zero]at hst;have hf:=run_firstCells_some (P:=cx.P) w ei.size rows2.length ⟨B,off2,none⟩ rows2.length c news n1 n2
     have hrun : (Builtin.append_ #[t, t] ty #[.slice (some ⟨g, off, none⟩) rows.length cap, .slice (some ⟨B, off2, none⟩) rows2.length c]).run cx.P w =
         .ok (.slice (some ⟨g,off,none⟩) (rows.length+rows2.length) cap) (w.setRow g (cur.toList.take (off+rows.length*ei.size)++news++cur.toList.drop (off+rows.length*ei.size+news.length)).toArray):=by
      simp[Builtin.append_,run_underlying t2,Go.sizeOf,typeInfo,i1,i4,Builtin.lenOf,hroom,hf,cC,hst]
     refine⟨_,_,hrun,rfl,rfl,rfl,by simp,λk _ hk=>setRow_other w g k _ (λe=>hk (by rw[e];rfl)),λg' hg' => .inl hg',?_⟩;have hcs:off+rows.length*ei.size<=cur.toList.length:=by rw[Array.length_toList];exact Nat.le_trans (Nat.add_le_add_left (Nat.le_trans (Nat.le_add_right _ _) hmul) _) hfit
     have:=HA (w:=w.setRow g (cur.toList.take (off+rows.length*ei.size)++news++cur.toList.drop (off+rows.length*ei.size+news.length)).toArray) (R:=Rep w (Own E.O (live st.heap) σ)) (rows:=rows++rows2) (b:=g) (off:=off) (cap:=cap)
      (ys:=(List.range (rows.length*ei.size)).map (λq=>cur.getD (off+q) Go.undef)++news) k1 (by rw[List.length_append];exact hroom) k3 hall (setRow_heap w g cur _ e _ hg)
      (by simp only[List.size_toArray,List.length_append,List.length_take,List.length_drop,Array.length_toList];rw[n1];omega)
      (λj u hj=>by
       rw[List.getElem?_toArray];by_cases hlt:j<rows.length*ei.size
       . rw[cq (by simpa using hlt)]at hj;have hu:cur.getD (off+j) Go.undef=u:=by simpa [hlt] using hj
         rw[cq (by simp;omega),cq (by simp;omega),List.getElem?_take_of_lt (by omega),aW, <- hu];have hc:off+j<cur.size:=by omega
         simp[hc]
       . rw[bX (by simpa using Nat.le_of_not_lt hlt)]at hj;simp only[ao,List.length_range]at hj;have hjn:=(aq.1 hj).1;have htl:(cur.toList.take (off+rows.length*ei.size)).length=off+rows.length*ei.size:=by rw[List.length_take];omega
         rw[cq (by rw[List.length_append,htl];omega),bX (by rw[htl];omega),htl, <- hj]
         congr 1;omega)
      (λi r j d hi hj=>lQ (w:=w) (w' :=w) (by simp) (aU.refl w _) (λi r j d hi hj=>by
       obtain⟨u,hu,hd⟩:=hget i r j d hi hj;have h1:=(aq.1 hi).1;have h2:=(aq.1 hj).1;rw[(k4 r (ar hi)).1]at h2;have h3:(i+1)*ei.size<=rows.length*ei.size:=Nat.mul_le_mul_right _ h1;rw[Nat.add_mul]at h3;have hlt:i*ei.size+j<rows.length*ei.size:=by omega
       refine⟨u,?_,hd⟩;have:cur.getD (off+(i*ei.size+j)) Go.undef=u:=by rw[bp,hu];rfl
       rw[aN,List.getElem?_range hlt];exact congrArg some this) n4 i r j d hi hj)
     rw[List.length_append]at this;exact this
   . have hmul:rows.length*ei.size<=cap*ei.size:=Nat.mul_le_mul_right _ k2;have holds:∀j u,((List.range (rows.length*ei.size)).map (λq=>cur.getD (off+q) Go.undef))[j]? =some u->w.cell? ((⟨g,off,none⟩:Addr).add j)=some u:=λj u hj=>by
      have hlt:j<rows.length*ei.size:=by have:=(aq.1 hj).1;simpa using this
      rw[cC];have hu:cur.getD (off+j) Go.undef=u:=by simpa [hlt] using hj
      have hc:off+j<cur.size:=by omega
      rw[<- hu];simp[World.cell?,hg,hc]
     have hrun:=run_append_grow (P:=cx.P) w t ty e info zv t2 i1 i6 ⟨g,off,none⟩ rows.length cap _ (by rw[i4];simp) holds ⟨B,off2,none⟩ rows2.length c news (by rw[i4];exact n1) n2 (by omega) (by omega) (by rw[i5];exact growslice_fits (by omega) hb2);refine⟨_,_,hrun,rfl,rfl,rfl,by simp,λk hk _=>heap_alloc_old w.drew _ hk,λg' hg' =>by cases hg';exact .inr (Nat.le_refl _),?_⟩;refine fresh cap _ (by simp) λi r j d hi hj=>?_
     obtain⟨u,hu,hd⟩:=hget i r j d hi hj;have h1:=(aq.1 hi).1;have h2:=(aq.1 hj).1;rw[(k4 r (ar hi)).1]at h2;have h3:(i+1)*ei.size<=rows.length*ei.size:=Nat.mul_le_mul_right _ h1;rw[Nat.add_mul]at h3;have hlt:i*ei.size+j<rows.length*ei.size:=by omega
     refine⟨u,?_,hd⟩;have:cur.getD (off+(i*ei.size+j)) Go.undef=u:=by rw[bp,hu];rfl
     rw[aN,List.getElem?_range hlt];exact congrArg some this
def xR(cx:Cx)(st:St)(t:TypeId)(s:Nat)(x:AV)(k:AV->List (Nat×AV)->List (Nat×Blk)->Prop):Prop :=
 match bO cx t,find st.heap s,nM st x with
 |some (e,ei),some (.tail e' sz rows),some (sz2,rows2)=>(match Nat.ble 1 ei.size,Nat.beq e e',Nat.beq ei.size sz,Nat.beq sz2 ei.size with
  |true,true,true,true=>rows.length+rows2.length<=9223372036854775807/\(rows.length+rows2.length)*ei.bytes<=140737488355328/\k (.own s) (gC s st.slots) ((s,.tail e' sz (rows++rows2))::dM s st.heap)
  |_,_,_,_=>False)
 |_,_,_=>False
theorem JU(hT:ba cx){o:Oper}{s x:Operand}{t:TypeId}(ho:o.op= .call {callee:= .builtin .append,args:= #[s,x],argTypes:= #[t,t]}){site:Nat}(hsv:st.ev cx s= .own site){k:AV->List (Nat×AV)->List (Nat×Blk)->Prop}
 (h:xR cx st t site (iF cx t (st.ev cx x)) k):∃v sl hp,iu cx o st ⟨bd sl o.dst v,hp⟩/\k v sl hp:=by
 have hexec:∀(a:Act) (w:World) {z:Value} {w' :World},(Builtin.append_ #[t,t] o.type #[a.eval s,a.eval x]).run cx.P w= .ok z w' ->(execOp a.eval o).run cx.P w= .ok (.value z) w' :=λa w z w' hh=>by
  simp[execOp,ho,resolve,invoke,builtin,hh]
 unfold xR at h;split at h
 . rename_i e ei e' sz rows sz2 rows2 hse hf hsrc;split at h
   . rename_i c1 c2 c3 c4;have hsz:1<=ei.size:=ag c1;obtain rfl:e=e' :=aO c2;obtain rfl:ei.size=sz:=aO c3;obtain rfl:sz2=ei.size:=aO c4;obtain⟨b1,b2,hk⟩:=h;refine⟨_,_,_,λE a w Q hd ⟨σ,hs⟩=>?_,hk⟩;have hrs:=hs.ev (St.le.refl st) s;rw[hsv]at hrs;have hrx:=iG (cx:=cx) (t:=t) (hs.ev (St.le.refl st) x);obtain⟨o1,o2⟩:=hs.holds.blk site _ hf;have hl:live st.heap site:=ax.2 ⟨_,hf⟩;obtain⟨v',w',r1,q1,q2,q3,q4,q5,q6,q7⟩:=zL (ty:=o.type) hT hs hse hsz hsrc hrx o1 (by simpa [maxLen] using b1) b2;have hsv' :a.eval s=σ site:=by generalize a.eval s=u at hrs;cases hrs;rfl
     rw[<- hsv']at r1;simp only[Oper.wp,hexec a w r1,Oper.upon];refine hs.EW (τ:=v') hd hl (λaa e=>by obtain⟨_,_,e',_⟩:=o1;rw[e']at e;cases e) q1 q2 q3 q4 q5 q6 (λσ' e1 hkeep=>?_) (λσ' e1=>?_)
     . refine⟨?_,λb hb=>?_⟩
       . rw[e1];exact q7.mono (λ_ _=>rfl) λ_ _ hr=>hr.mono hkeep
       . rw[e1]at hb;rcases q6 b hb with hb|hb
         . exact o2 b hb
         . exact hs.new b (Nat.le_trans hs.frame.size hb)
     . have:=au.own (w:=w') (O:=E.O) (σ:=σ') site hl;rw[e1]at this;exact this
   . exact h.elim
 . exact h.elim
def rowsOf:Option Blk->Option (TypeId×Nat×List (List D))
 |some (.row e sz rows _)=>some (e,sz,rows)
 |some (.tail e sz rows)=>some (e,sz,rows)
 |_=>none
def xS(cx:Cx)(st:St)(t:TypeId)(s:Nat)(lo:AV)(k:AV->List (Nat×AV)->List (Nat×Blk)->Prop):Prop :=
 match bO cx t,rowsOf (find st.heap s),lo with
 |some (_,ei),some (e,sz,rows),.d (.int _ n)=>(match Nat.beq ei.size sz with
  |true=>(0<=n/\n.toNat<=rows.length)/\k (.own s) (gC s st.slots) ((s,.tail e sz (rows.drop n.toNat))::dM s st.heap)
  |false=>False)
 |_,_,_=>False
theorem Ga{F:Nat->Prop}{O L:Nat->Prop}{s:Nat}{b:Blk}{e:TypeId}{sz:Nat}{rows:List (List D)}(h:rowsOf (some b)=some (e,sz,rows))(hb:cw w F O L σ s b):gS w (Rep w (Own O L σ)) e sz rows (σ s)/\ ∀g,home (σ s)=some g->F g:=by
 cases b with
 |row e0 s0 r0 fl =>
  cases h;obtain⟨xs,o1,o2,o3,o4,o5⟩:=hb;refine⟨?_,o2⟩;rcases o1.2 with ⟨e1,e2⟩|⟨g,cap,cur,e1,_,e3,e4,e5,e6,e7⟩
  . exact⟨none,0,by rw[e1,e2],⟨o3.1,by omega,Nat.zero_le _⟩,o4,.inl ⟨rfl,rfl⟩⟩
  . refine⟨_,cap,e1,⟨o3.1,e4,e5⟩,o4,.inr ⟨g,0,cur,rfl,e3,by omega,λi r j d hi hj=>?_⟩⟩;obtain⟨u,hu,hd⟩:=o5 i r j d hi hj;refine⟨u,?_,hd⟩;rw[<- e7,List.getElem?_take]at hu;split at hu
    . rw[Nat.zero_add];simpa using hu
    . cases hu
 |tail e0 s0 r0=>cases h;exact hb
 |_=>cases h
theorem JV(hT:ba cx){o:Oper}{t:TypeId}{x lo:Operand}(ho:o.op= .slice t x (some lo) none none){site:Nat}(hx:st.ev cx x= .own site){k:AV->List (Nat×AV)->List (Nat×Blk)->Prop}
 (h:xS cx st t site (st.ev cx lo) k):∃v sl hp,iu cx o st ⟨bd sl o.dst v,hp⟩/\k v sl hp:=by
 unfold xS at h;split at h
 . rename_i e0 ei e sz rows ki n hse hf hlo;split at h
   . rename_i hsz;obtain rfl:ei.size=sz:=aO hsz;obtain⟨⟨h0,hn⟩,hk⟩:=h;refine⟨_,_,_,λE a w Q hd ⟨σ,hs⟩=>?_,hk⟩;have hrx:=hs.ev (St.le.refl st) x;rw[hx]at hrx;have hrl:=hs.ev (St.le.refl st) lo;rw[hlo]at hrl;obtain⟨b,hb⟩:∃b,find st.heap site=some b:=by
      cases hfb:find st.heap site with
      |none=>rw[hfb]at hf;cases hf
      |some b=>exact⟨b,rfl⟩
     rw[hb]at hf;have hl:live st.heap site:=ax.2 ⟨_,hb⟩;obtain⟨⟨aa,cap,e1,⟨k1,k2,k3⟩,k4,k5⟩,o2⟩:=Ga hf (hs.holds.blk site _ hb);have hsv' :a.eval x=σ site:=by generalize a.eval x=u at hrx;cases hrx;rfl
     obtain⟨ti,ht,hkd,hei⟩:=bP hse;obtain⟨_,_,_,_,t2,t3,_⟩:=hT _ _ ht;rw[hkd]at t3;obtain rfl:=bE t3;obtain⟨_,r2⟩:=cZ (w:=w) hT hei;have hnl:n<=rows.length:=by omega
     have hrun:(execOp a.eval o).run cx.P w= .ok (.value (.slice (if cap=n.toNat then aa else aa.map (·.add (n.toNat*ei.size))) (rows.length-n.toNat) (cap-n.toNat))) w:=by
      simp[execOp,ho,hsv',e1,hrl.int,Instr.sliceAt,Instr.slice,Instr.sliceBounds,Instr.sliceBound,run_underlying t2,asIntOf,h0,hnl,r2]
     simp only[Oper.wp,hrun,Oper.upon];have hdl:(rows.drop n.toNat).length=rows.length-n.toNat:=List.length_drop;refine hs.EW (τ:= .slice (if cap=n.toNat then aa else aa.map (·.add (n.toNat*ei.size))) (rows.length-n.toNat) (cap-n.toNat)) hd hl (λaa e=>by rw[e1]at e;cases e) rfl rfl rfl (Nat.le_refl _) (λ_ _ _=>rfl) (λg hg=>?_) (λσ' e1' hkeep=>?_) (λσ' e1' =>?_)
     . refine .inl ?_;rw[e1];rcases k5 with ⟨rfl,_⟩|⟨g',off,cur,rfl,_⟩
       . split at hg <;> cases hg
       . split at hg
         . exact hg
         . simp only[Option.map_some,cC]at hg;exact hg
     . have hg0:∀g,home (σ' site)=some g->E.F g:=λg hg=>by
        refine o2 g ?_;rw[e1' ]at hg;rw[e1];rcases k5 with ⟨rfl,_⟩|⟨g',off,cur,rfl,_⟩
        . split at hg <;> cases hg
        . split at hg
          . exact hg
          . simp only[Option.map_some,cC]at hg;exact hg
       refine⟨?_,hg0⟩;rw[e1'];refine⟨_,_,by rw[hdl],⟨k1,by omega,by omega⟩,λr hr=>k4 r (List.mem_of_mem_drop hr),?_⟩;rcases k5 with ⟨rfl,hc⟩|⟨g',off,cur,rfl,q1,q2,q3⟩
       . exact .inl ⟨by split <;> rfl,by omega⟩
       . by_cases hcn:cap=n.toNat
         . rw[if_pos hcn]
           refine .inr ⟨g', off, cur, rfl, q1, by have : cap - n.toNat = 0 := by omega
                                                  rw[this];omega,λi r j d hi hj=>?_⟩
           have h1:=(aq.1 hi).1;rw[hdl]at h1;omega
         . rw[if_neg hcn];simp only[Option.map_some,cC];have hcm:n.toNat*ei.size+(cap-n.toNat)*ei.size=cap*ei.size:=by rw[<- Nat.add_mul];congr 1;omega
           refine .inr ⟨g',off+n.toNat*ei.size,cur,rfl,q1,by omega,λi r j d hi hj=>?_⟩;rw[List.getElem?_drop]at hi;obtain⟨u,hu,hd⟩:=q3 _ r j d hi hj;refine⟨u,?_,hd.mono hkeep⟩;rw[<- hu,Nat.add_mul]
           congr 1;omega
     . have:=au.own (w:=w) (O:=E.O) (σ:=σ') site hl;rw[e1']at this;exact this
   . exact h.elim
 . exact h.elim
end
def ry:List D->D
 |[.tuple [d]]=>d
 |cs=> .agg cs
theorem DZ{w:World}{O:Nat->Prop}{k:List D}{u:Value}(h:kG k u):Rep w O (ry k) u:=by
 have flat:∀{d:D} {v:Value},dE d v->Rep w O d v/\d.one=true:=λ{d v} h=>by
  cases d with
  |int kk n=>obtain rfl:v= .int kk n:=h;exact⟨.int _ _,rfl⟩
  |bool b=>obtain rfl:v= .bool b:=h;exact⟨.bool _,rfl⟩
  |str s=>obtain⟨b,rfl,hb⟩:∃b:ByteArray,v= .string b/\b.data.toList=s:=h;exact⟨.str _ _ hb,rfl⟩
  |_=>exact h.elim
 rcases h with ⟨d,rfl,h⟩|⟨vs,rfl,hl,h⟩
 . exact(flat h).1
 . have hne:∀d,k≠[.tuple [d]]:=λd e=>by subst e;exact(h 0 _ rfl).elim
   have e:ry k= .agg k:=by
    unfold ry;split
    . exact absurd rfl (hne _)
    . rfl
   rw[e];refine .agg _ _ hl (λd hd=>?_) λj d hj=>(flat (h j d hj)).1
   obtain⟨j,hj⟩:=cd hd;exact(flat (h j d hj)).2
def AB(k:List D)(x:D):AV:= .tuple [.d (.bool true),(ry k).dB,x.dB]
def zR(cx:Cx)(st:St)(o:Oper):Option (Nat×List (List D×D)) :=
 match o.op with
 | .next it isS=>(match isS,st.ev cx it with
  |false,.ptr s 0=>(match find st.heap s with|some (.iter left _)=>some (s,left)|_=>none)
  |_,_=>none)
 |_=>none
def vW(cx:Cx)(st:St)(o:Oper):Option (Nat×List (List D×D)) :=
 match o.op with
 | .range t x=>(match isMap cx t,o.dst,st.ev cx x with
  |true,some d,.d (.kmap m)=>some (d,m)
  |_,_,_=>none)
 |_=>none
theorem uz{α:Type}:∀{l:List α} {i:Nat} {p:α->Bool},(∀(j:Nat) x,l[j]? =some x->(p x=true ↔ j≠i))->l.filter p=l.eraseIdx i
 |[],i,p,_=>by simp
 |x::t,0,p,h=>by
  have h0:=h 0 x rfl;rw[List.filter_cons_of_neg (by simpa using h0),List.eraseIdx_cons_zero];refine List.filter_eq_self.2 λy hy=>?_
  obtain⟨j,hj⟩:=cd hy;exact(h (j+1) y (by simpa using hj)).2 (by omega)
 |x::t,i+1,p,h=>by
  have h0:=h 0 x rfl;rw[List.filter_cons_of_pos (h0.2 (by omega)),List.eraseIdx_cons_succ,uz (i:=i) λj y hj=>?_];rw[h (j+1) y (by simpa using hj)];omega
theorem wL{es:Array MapEntry}{seen:Array Nat}{clock i:Nat}{e:MapEntry}(hs:iZ es clock)(he:(leftOf es seen)[i]? =some e):(leftOf es (seen.push e.born)).toList=(leftOf es seen).toList.eraseIdx i:=by
 have e1:(leftOf es (seen.push e.born)).toList=(leftOf es seen).toList.filter λx=> !(x.born==e.born):=by
  unfold leftOf;rw[Array.toList_filter,Array.toList_filter,List.filter_filter];refine List.filter_congr λx _=>?_
  rw[Array.contains_push,Bool.not_or,Bool.and_comm]
 rw[e1];refine uz λj x hj=>?_
 have hn:((leftOf es seen).toList.map (·.born)).Nodup:=by
  unfold leftOf;rw[Array.toList_filter];exact(List.filter_sublist.map _).nodup hs.2
 have hi:(leftOf es seen).toList[i]? =some e:=by rw[aW];exact he
 simp only[Bool.not_eq_true',beq_eq_false_iff_ne];constructor
 . rintro h rfl;rw[hi]at hj;cases hj;exact h rfl
 . intro hne hb;have a1:((leftOf es seen).toList.map (·.born))[j]? =some x.born:=by rw[aN,hj];rfl
   have a2:((leftOf es seen).toList.map (·.born))[i]? =some e.born:=by rw[aN,hi];rfl
   rw[hb]at a1;obtain⟨hjl,_⟩:=aq.1 a1;exact hne ((List.getElem?_inj hjl hn).1 (a1.trans a2.symm))
section
variable {cx:Cx} {st:St} {E:Env} {a:Act} {w:World}
theorem QO{o:Oper}{s:Nat}{left:List (List D×D)}(hw:zR cx st o=some (s,left)){k:Act->World->Prop}{Q:Exit->Act->World->Prop}(hd:∀e,o.dst=some e->e<E.nt)(hs:Sim cx E st a w)
 (h0:left=[]-> ∀a' w',Sim cx E ⟨bd st.slots o.dst (.tuple [.d (.bool false)]),st.heap⟩ a' w' ->k a' w')
 (h1:∀i kk x,left[i]? =some (kk,x)-> ∀a' w',Sim cx E ⟨bd st.slots o.dst (AB kk x),(s,.iter (left.eraseIdx i) (some (kk,x)))::st.heap⟩ a' w' ->k a' w'):o.wp cx.P a w k Q:=by
 unfold zR at hw;split at hw
 case h_2=>cases hw
 rename_i it isS ho;split at hw
 case h_2=>cases hw
 rename_i s' hev;split at hw
 case h_2=>cases hw
 rename_i left' cur' hf;cases hw;obtain⟨σ,hs⟩:=hs;have hr:=hs.ev (St.le.refl st) it;rw[hev]at hr;obtain⟨⟨b,mb,es,clock,seen,e1,e2,⟨e3,e4,e5⟩,e6,⟨e7,_⟩,e8⟩,hF⟩:=hs.holds.blk s _ hf;have hl:live st.heap s:=ax.2 ⟨_,hf⟩;have hev' :a.eval it= .pointer (some ⟨b,0,none⟩):=by
  generalize a.eval it=u at hr
  cases hr with|ptr _ _ b' hL h=>rw[e1]at h;cases h;rfl
 have hrun:=run_next_at (P:=cx.P) w o.type b mb clock clock seen es clock e2 e5 (λx hx=>e6.1 x hx) (Nat.le_refl _);have hexec:∀{v:Value} {w' :World},(Instr.next (.pointer (some ⟨b,0,none⟩)) false o.type).run cx.P w= .ok v w' ->(execOp a.eval o).run cx.P w= .ok (.value v) w' :=λ{v w'} h=>by
  simp only[execOp,ho,hev',Sem.run_bind,h,Result.andThen,Sem.run_pure]
 rcases hrun with ⟨hz,hrun⟩|⟨e,he,w1,hw1,hrun⟩
 . have hnil:left=[]:=List.eq_nil_of_length_eq_zero (by omega);have:=hexec hrun;simp only[Oper.wp,this,Oper.upon];refine h0 hnil _ _ ⟨σ,?_⟩;have hh:=hs.put (v:= .tuple [.d (.bool false)]) (u:= .tuple #[.bool false]) hd (.tuple _ _ rfl λj c hj=>by
    rcases j with _|j
    . cases hj;exact .d _ _ (.bool _)
    . simp at hj)
   exact hh
 . obtain⟨i,hi⟩:=cd he;have hi' :(leftOf es seen)[i]? =some e:=by rw[<- aW];exact hi
   have hil:i<left.length:=by rw[<- e7];exact(bj.1 hi').1
   obtain⟨⟨kk,x⟩,hx⟩:∃p,left[i]? =some p:=⟨_,aj hil⟩
   obtain⟨e',q1,q2,q3⟩:=e8 i kk x hx;rw[hi']at q1;cases q1;have:=hexec hrun;simp only[Oper.wp,this,Oper.upon];refine h1 i kk x hx _ _ ⟨σ,?_⟩;have hbw:b<w.heap.size:=(bj.1 e2).1;have hwb:∀k:Nat,w1.heap[k]? =w.heap[k]? :=λk=>by rcases hw1 with h|h <;> rw[h];rfl
   have hwz:w1.heap.size=w.heap.size:=by rcases hw1 with h|h <;> rw[h];rfl
   have hne:∀j,j≠b->(ChangeMaps.setBlock w1 b (.mapIter (some mb) clock (seen.push e.born) clock)).heap[j]? =w.heap[j]? :=λj hj=>by
    show(w1.heap.setIfInBounds b _)[j]? =_
    rw[Array.getElem?_setIfInBounds_ne (Ne.symm hj)];exact hwb j
   have hOb:Own E.O (live st.heap) σ b:= .inr ⟨s,hl,by rw[e1];rfl⟩;have hmb:mb≠b:=λe=>e3 (e ▸ hOb)
   refine hs.MD hd hl (g:=b) (by rw[e1];rfl) (by rcases hw1 with h|h <;> (rw[h];rfl)) (by rcases hw1 with h|h <;> (rw[h];rfl)) (by rcases hw1 with h|h <;> (rw[h];rfl)) (by show w.heap.size<=(w1.heap.setIfInBounds b _).size;simp[hwz]) (λj _ hj=>hne j hj) (λhk=>?_) ?_
   . refine⟨⟨b,mb,es,clock,seen.push e.born,e1,?_,⟨e3,?_,(hne mb hmb).trans e5⟩,e6,⟨?_,λk2 x2 hc=>?_⟩,λj k2 x2 hj=>?_⟩,hF⟩
     . show(w1.heap.setIfInBounds b _)[b]? =_
       rw[Array.getElem?_setIfInBounds_self_of_lt (by rw[hwz];exact hbw)]
     . show mb<(w1.heap.setIfInBounds b _).size
       simp[hwz];exact e4
     . have:=congrArg List.length (wL e6 hi');rw[List.length_eraseIdx]at this;rw[List.length_eraseIdx];simp only[Array.length_toList]at this;rw[this,e7]
     . cases hc;exact⟨e,⟨(mem_left he).1,by simp⟩,q2,q3.mono hk⟩
     . have hg:(leftOf es (seen.push e.born))[j]? =((leftOf es seen).toList.eraseIdx i)[j]? :=by rw[<- aW,wL e6 hi']
       rw[hg];rw[List.getElem?_eraseIdx]at hj ⊢;split at hj
       . rename_i hji;rw[if_pos hji,aW];obtain⟨z,z1,z2,z3⟩:=e8 j k2 x2 hj;exact⟨z,z1,z2,z3.mono hk⟩
       . rename_i hji;rw[if_neg hji,aW];obtain⟨z,z1,z2,z3⟩:=e8 (j+1) k2 x2 hj;exact⟨z,z1,z2,z3.mono hk⟩
   . have hk:aU w (ChangeMaps.setBlock w1 b (.mapIter (some mb) clock (seen.push e.born) clock)) (Own E.O (live st.heap) σ) (Own E.O (live st.heap) σ):=⟨by show w.heap.size<=(w1.heap.setIfInBounds b _).size;simp[hwz],λj hj _=>hne j λe=>hj (e ▸ hOb),λ_ h _=>h⟩
     refine .tuple _ _ rfl λj c hj=>?_
     rcases j with _|_|_|j
     . cases hj;exact .d _ _ (.bool _)
     . cases hj;exact gX (DZ q2)
     . cases hj;exact gX (q3.mono hk)
     . simp at hj
theorem LL(hT:ba cx){o:Oper}{d:Nat}{m:List (List D×D)}(hw:vW cx st o=some (d,m))(hf:find st.heap d=none):iu cx o st ⟨bd st.slots o.dst (.ptr d 0),(d,.iter m none)::st.heap⟩:=by
 unfold vW at hw;split at hw
 case h_2=>cases hw
 rename_i t x ho;split at hw
 case h_2=>cases hw
 rename_i d' m' ht hdst hev;cases hw;intro E a w Q hd hs;obtain⟨σ,hs⟩:=hs;have hr:=hs.ev (St.le.refl st) x;rw[hev]at hr;generalize hu:a.eval x=u at hr;cases hr with|d _ _ hr =>
 obtain⟨mb,clock,es,rfl,g1,g2,g3,g4⟩:=hr.JX;obtain⟨kt,et,hund⟩:=sV hT ht;have hrun:(execOp a.eval o).run cx.P w= .ok (.value (.pointer (some ⟨w.heap.size,0,none⟩))) (w.alloc (.mapIter (some mb) clock #[] clock)):=by
  simp[execOp,ho,Instr.range,hu,run_underlying hund,getObj,newObj,Sem.run,g3,Result.andThen]
 simp only[Oper.wp,hrun,Oper.upon];have hnl:¬live st.heap d:=by unfold live;rw[hf];simp
 let τ:Value:= .pointer (some ⟨w.heap.size,0,none⟩)
 let σ' :Nat->Value:=λs=>if s=d then τ else σ s
 have e1:σ' d=τ:=if_pos rfl;have e2:∀s,live st.heap s->σ' s=σ s:=λs hl=>by
  show(if s=d then τ else σ s)=σ s
  exact if_neg λe=>hnl (by rw[<- e];exact hl)
 have hg0:w.heap.size<=(w.alloc (.mapIter (some mb) clock #[] clock)).heap.size:=by simp
 have hfix:∀j,j<w.heap.size->(w.alloc (.mapIter (some mb) clock #[] clock)).heap[j]? =w.heap[j]? :=λj hj=>heap_alloc_old w _ hj
 have hk:aU w (w.alloc (.mapIter (some mb) clock #[] clock)) (Own E.O (live st.heap) σ) (Own E.O (live ([(d,Blk.iter m none)]++st.heap)) σ'):=by
  refine⟨hg0,λj _ hj=>hfix j hj,λj hj hlt ho=>hj ?_⟩;rcases ho with ho|⟨s,hl,e⟩
  . exact .inl ho
  . rcases bW.1 hl with hl|hl
    . rw[bH]at hl;subst hl;rw[e1]at e;have:w.heap.size=j:=by simpa [τ,home] using e
      omega
    . rw[e2 s hl]at e;exact .inr ⟨s,hl,e⟩
 have hnew:E.F w.heap.size:=hs.new _ hs.frame.size;refine⟨σ',hs.grow (bs:=[(d,.iter m none)]) hd e2 (ix _ _) (λq0 B hB hl=>?_) (λs b hl e=>?_) (λs s' b hl hl' e e' =>?_) (λs b hb=>?_) (.ptr d 0 _ (bW.2 (.inl (by rw[bH]))) e1)⟩
 . have h1:=(hs.fix q0 B hB).1;have h2:(d:Nat)<E.nt:=hd _ hdst;rw[bH]at hl;omega
 . rw[bH]at hl;subst hl;rw[e1]at e;have:w.heap.size=b:=by simpa [τ,home] using e
   omega
 . rw[bH]at hl hl';exact hl.trans hl'.symm
 . by_cases hsd:d=s
   . subst hsd;rw[aP]at hb;cases hb;refine⟨⟨w.heap.size,mb,es,clock, #[],e1,heap_alloc_new w _,⟨hk.own mb g1 g2,Nat.lt_of_lt_of_le g2 hg0,(hfix mb g2).trans g3⟩,g4.1.2,⟨?_,λ_ _ hc=>by cases hc⟩,λj kk x hj=>?_⟩,λb hb=>?_⟩
     . have:leftOf es #[]=es:=by unfold leftOf;exact Array.filter_eq_self.2 λ_ _=>by simp
       rw[this];exact g4.1.1
     . have:leftOf es #[]=es:=by unfold leftOf;exact Array.filter_eq_self.2 λ_ _=>by simp
       rw[this];obtain⟨e,q1,q2,q3⟩:=g4.2 j kk x hj;exact⟨e,q1,q2,q3.mono hk⟩
     . rw[e1]at hb;have:w.heap.size=b:=by simpa [τ,home] using hb
       subst this;exact hnew
   . rw[aQ _ _ hsd]at hb;simp[find]at hb
def vG(cx:Cx)(st:St)(o:Oper):Option (List D×D) :=
 match o.op with
 | .entry it=>(match st.ev cx it with
  | .ptr s 0=>(match find st.heap s with|some (.iter _ cur)=>cur|_=>none)
  |_=>none)
 |_=>none
theorem Nx{o:Oper}{kk:List D}{x:D}(hw:vG cx st o=some (kk,x)):iu cx o st ⟨bd st.slots o.dst (.tuple [(ry kk).dB,x.dB]),st.heap⟩:=by
 unfold vG at hw;split at hw
 case h_2=>cases hw
 rename_i it ho;split at hw
 case h_2=>cases hw
 rename_i s hev;split at hw
 case h_2=>cases hw
 rename_i left cur hf;subst hw;intro E a w Q hd hs;obtain⟨σ,hs⟩:=hs;have hr:=hs.ev (St.le.refl st) it;rw[hev]at hr;obtain⟨⟨b,mb,es,clock,seen,e1,e2,⟨e3,e4,e5⟩,e6,⟨e7,e9⟩,e8⟩,hF⟩:=hs.holds.blk s _ hf;have hev' :a.eval it= .pointer (some ⟨b,0,none⟩):=by
  generalize a.eval it=u at hr
  cases hr with|ptr _ _ b' hL h=>rw[e1]at h;cases h;rfl
 obtain⟨e,⟨q0,q1⟩,q2,q3⟩:=e9 kk x rfl;obtain⟨pre,hpre⟩:∃pre:Array Nat,seen=pre.push e.born:=by
  rcases List.eq_nil_or_concat seen.toList with h|⟨l,y,h⟩
  . have:seen= #[]:=by rw[<- Array.toList_inj];exact h
    rw[this]at q1;simp at q1
  . have hs' :seen=l.toArray.push y:=by rw[<- Array.toList_inj];simpa using h
    rw[hs']at q1;have:y=e.born:=by simpa using q1
    exact⟨l.toArray,by rw[hs',this]⟩
 rw[hpre]at e2;have hrun:=run_entry_at (P:=cx.P) w b mb clock pre es clock e e2 e5 q0 e6.2;have hexec:(execOp a.eval o).run cx.P w= .ok (.value (.tuple #[e.key,e.val])) w:=by
  simp only[execOp,ho,hev',Sem.run_bind,hrun,Result.andThen,Sem.run_pure]
 simp only[Oper.wp,hexec,Oper.upon];refine⟨σ,hs.put (v:= .tuple [(ry kk).dB,x.dB]) (u:= .tuple #[e.key,e.val]) hd (.tuple _ _ rfl λj c hj=>?_)⟩;rcases j with _|_|j
 . cases hj;exact gX (DZ q2)
 . cases hj;exact gX q3
 . simp at hj
end
def JK:AV->Bool
 | .d _=>true
 | .nil _=>true
 |_=>false
def PL:AV->Bool
 | .agg cs=>cs.all JK
 |v=>JK v
def FnC(cx:Cx)(f:FuncId)(args:List AV){ι:Type}(res:ι->AV)(bs:ι->List (Nat×Blk)):Prop :=
 ff cx.P f/\ ∀(O:Nat->Prop) (w:World) (vs:Array Value),(∀b,O b->b<w.heap.size)->iN cx w->(∀g cells,cx.gl g=some cells-> ¬O g)->vs.size=args.length ->
  (∀(j:Nat) c,args[j]? =some c->au w O (λ_=>False) (λ_=> .nilFunc) c (vs.getD j Go.undef)) ->
  Calls cx.P f vs w λe w' => ∃i u τ,e= .returned u/\Below w.heap.size w w' /\Holds w' (w.heap.size<= ·) O (bs i) τ/\au w' O (live (bs i)) τ (res i) u
theorem BB{w:World}{O L:Nat->Prop}{σ:Nat->Value}{c:AV}{u:Value}(hc:JK c=true)(h:au w O L σ c u):au w (Own O L σ) (λ_=>False) (λ_=> .nilFunc) c u:=by
 cases h with
 | d x v h => exact .d _ _ (h.mono (aU.less fun b hb => by
     rcases hb with hb|⟨s,hl,_⟩
     . exact hb
     . exact hl.elim))
 |nil=>exact .nil _
 |_=>cases hc
theorem OO{w:World}{O L:Nat->Prop}{σ:Nat->Value}{c:AV}{u:Value}(hc:PL c=true)(h:au w O L σ c u):au w (Own O L σ) (λ_=>False) (λ_=> .nilFunc) c u:=by
 cases c with
 |agg cs=>cases h with|agg _ vs hl hh=>exact .agg _ _ hl λj c hj=>BB (ay.1 hc c (ar hj)) (hh j c hj)
 |_=>exact BB hc h
def zg(cx:Cx)(st:St)(o:Oper):Option (FuncId×List AV) :=
 match o.op with
 | .call c=>(match c.callee with
  | .value f=>(match callee (st.ev cx f)with
   |some (g,a,b)=>(match Nat.beq (cx.chg g) 7,(a++bM cx st c.args.toList c.argTypes.toList++b).all PL with
    |true,true=>some (g,a++bM cx st c.args.toList c.argTypes.toList++b)
    |_,_=>none)
   |none=>none)
  |_=>none)
 |_=>none
section
variable {cx:Cx} {st:St} {nt:Nat}
theorem QU{o:Oper}{g:FuncId}{as:List AV}(hp:zg cx st o=some (g,as)){ι:Type}{res:ι->AV}{bs:ι->List (Nat×Blk)}(hFn:FnC cx g as res bs)(hlow:∀i,sZ (bs i)=true)(hfresh:∀i s,live (bs i) s-> ¬live st.heap s)
 (E:Env) (a:Act) (w:World) (Q:Exit->Act->World->Prop) (hd:∀e,o.dst=some e->e<E.nt) (hs:Sim cx E st a w):o.wp cx.P a w (λa' w' => ∃i,Sim cx E (st.put o.dst (res i) (bs i)) a' w') Q:=by
 unfold zg at hp;split at hp
 case h_2=>cases hp
 rename_i c ho;split at hp
 case h_2=>cases hp
 rename_i f hc;split at hp
 case h_2=>cases hp
 rename_i g' xs ys hg;split at hp
 case h_2=>cases hp
 rename_i _ hshut;cases hp;obtain⟨σ,hs⟩:=hs;obtain⟨us,vs,hu,s1,s2,r1,r2⟩:=mP hg (hs.ev (St.le.refl st) f);obtain⟨l1,l2⟩:=gM (St.le.refl st) hs c.args.toList c.argTypes.toList;obtain⟨⟨fn,hf1,hf2,hf3⟩,hcall⟩:=hFn;have hf2' :¬fn.name= "runtime.NumGoroutine" :=by simpa using hf2
 have hf3' :¬fn.body=none:=by intro e;rw[e]at hf3;cases hf3
 have hrun:(execOp a.eval o).run cx.P w= .ok (.enter g (us++c.args.map a.eval++vs)) w:=by
  simp[execOp,ho,resolve,hc,hu,Deferred.ofValue,invoke,callFunc,hf1,hf2',hf3']
 have hall:=nk (R:=au w E.O (live st.heap) σ) (A:=xs) (B:=bM cx st c.args.toList c.argTypes.toList) (C:=ys) (ys:=c.args.map a.eval) s1 (by simp[l1]) r1 (λj cc hj=>by
  obtain⟨x,hx,hr⟩:=l2 j cc hj;have:(c.args.map a.eval).getD j Go.undef=a.eval x:=by rw[aW]at hx;simp[hx]
  rw[this];exact hr) r2
 have hcalls:=hcall (Own E.O (live st.heap) σ) w (us++c.args.map a.eval++vs) (λb hb=>hs.pf b hb) hs.mU (λg cells hgl=>hs.pC hgl) (by simp[s1,s2,l1])
  (λj cc hj=>OO (ay.1 hshut cc (ar hj)) (hall j cc hj))
 simp only[Oper.wp,hrun,Oper.upon];refine hcalls.mono λe w' =>?_
 rintro⟨i,u,τ,rfl,hbel,hholds,hr⟩;dsimp only;refine⟨i,?_⟩
 classical
 let σ' :Nat->Value:=λs=>if live (bs i) s then τ s else σ s
 have e1:∀s,live (bs i) s->σ' s=τ s:=λs hl=>if_pos hl
 have e2:∀s,live st.heap s->σ' s=σ s:=λs hl=>if_neg λhb=>hfresh i s hb hl
 have hkeep:aU w' w' (Own (Own E.O (live st.heap) σ) (live (bs i)) τ) (Own E.O (live (bs i++st.heap)) σ'):=aU.less λb hb=>by
  rcases hb with hb|⟨s,hl,e⟩
  . exact .inl (.inl hb)
  . rcases bW.1 hl with hl|hl
    . rw[e1 s hl]at e;exact .inr ⟨s,hl,e⟩
    . rw[e2 s hl]at e;exact .inl (.inr ⟨s,hl,e⟩)
 have hss:∀s,live (bs i) s->live (bs i++st.heap) s/\σ' s=τ s:=λs hl=>⟨bW.2 (.inl hl),e1 s hl⟩
 refine⟨σ',hs.grow hd e2 hbel (λq0 B hB hl=>by have:=Aw (hlow i) _ hl;have:=(hs.fix q0 B hB).1.2;omega) (λs b hl e=>?_) (λs s' b hl hl' e e' =>?_) (λs b hb=>?_) (hr.mono hkeep hss)⟩
 . rw[e1 s hl]at e;exact(hholds.home hl e).1
 . rw[e1 s hl]at e;rw[e1 s' hl']at e';exact hholds.inj s s' b hl hl' e e'
 . have hl:live (bs i) s:=ax.2 ⟨b,hb⟩;have:=(hholds.blk s b hb).mono hkeep hss hl (λg _=>rfl);have hF:∀b,w.heap.size<=b->E.F b:=λb hb=>hs.new b (Nat.le_trans hs.frame.size hb)
   cases b with
   |box cells=>obtain⟨b,cur,t,q1,q2,q3⟩:=this;exact⟨b,cur,t,q1,hF _ q2,q3⟩
   |row e size rows fl=>obtain⟨xs,q1,q2,q3⟩:=this;exact⟨xs,q1,λb hb=>hF _ (q2 b hb),q3⟩
   |smap m=>obtain⟨b,es,cl,q1,q2,q3⟩:=this;exact⟨b,es,cl,q1,hF _ q2,q3⟩
   |kmap m=>obtain⟨b,es,cl,q1,q2,q3⟩:=this;exact⟨b,es,cl,q1,hF _ q2,q3⟩
   |arow e size rows=>obtain⟨b,cur,t,q1,q2,q3⟩:=this;exact⟨b,cur,t,q1,hF _ q2,q3⟩
   |tail e size rows=>exact⟨this.1,λb hb=>hF _ (this.2 b hb)⟩
   |iter left cur=>exact⟨this.1,λb hb=>hF _ (this.2 b hb)⟩
   |dg m=>obtain⟨b,es,cl,q1,q2,q3⟩:=this;exact⟨b,es,cl,q1,hF _ q2,q3⟩
end
end NQ
