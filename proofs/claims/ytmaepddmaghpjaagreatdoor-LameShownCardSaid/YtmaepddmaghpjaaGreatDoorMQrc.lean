/-
  Merged texts.
-/
import Derived.Test.YtmaepddmaghpjaaGreatDoorMQra
import Derived.Test.YtmaepddmaghpjaaGreatDoorRgM
set_option linter.all false
namespace NQ
open Go Go.RowKit NP
theorem bC.refl(F:Nat->Prop)(w:World):bC F w w:=⟨rfl,rfl,rfl,Nat.le_refl _,λ_ _=>rfl⟩
theorem bC.eE{F:Nat->Prop}{w A B:World}{d:Nat}(h:bC F w A)(k:bL d A B)(hF:∀b,d<=b->F b)(hd:d<=A.heap.size):bC F w B:=by
 refine⟨k.os.trans h.os,k.tape.trans h.tape,k.output.trans h.output,Nat.le_trans h.size k.size,λx hx=>?_⟩;have hlt:x<d:=by
  rcases Nat.lt_or_ge x d with e|e
  . exact e
  . exact absurd (hF x e) hx
 exact(k.block x (by omega) (by omega) (by omega)).trans (h.block x hx)
structure Src where
 π:Type
 s0:π
 give:π->List D->π->Prop
 fin:π->Prop
@[reducible] def As (xs:List (List D)):Src:=⟨Nat,0,λk x k' =>xs[k]? =some x/\k' =k+1,λk=>k=xs.length⟩
def Nh(P:Program)(gf:Nat)(lb:Array Value)(S:Src)(O G0:Nat->Prop)(W0:World):Prop :=
 ∀(l:Nat) (J Jx:S.π->(Nat->Prop)->(Nat->Prop)->World->Prop),
  (∀k G I I' A B,J k G I A->(∀b,I' b->(I b\/A.heap.size<=b)/\b<B.heap.size)->bC (λb=>I b\/A.heap.size<=b) A B->J k G I' B) ->
  (∀k G I I' A B,Jx k G I A->(∀b,I' b->(I b\/A.heap.size<=b)/\b<B.heap.size)->bC (λb=>I b\/A.heap.size<=b) A B->Jx k G I' B) ->
  (∀k x k' vals G I W1,S.give k x k' ->J k G I W1->vals.size=x.length->(∀(j:Nat) c,x[j]? =some c->Rep W1 (λb=>(O b\/G b)\/I b) c (vals.getD j Go.undef)) ->
   YieldAt Fence.wide 1 P l vals W1 λe W' => ∃G',(∀b,G' b->(G b\/W1.heap.size<=b)/\b<W'.heap.size)/\bC (λb=>G b\/W1.heap.size<=b) W1 W' /\
    ((e= .returned (.bool true)/\J k' G' I W')\/(e= .returned (.bool false)/\Jx k' G' I W'))) ->
  J S.s0 G0 (λ_=>False) W0->CallsIn Fence.wide 2 P gf (#[]++ #[.func (.yield l) #[] #[]]++lb) W0 λe W' =>(∃v,e= .returned v)/\((∃k G I,S.fin k/\J k G I W')\/ ∃k G I,Jx k G I W')
def cG(d:Nat)(G I:Nat->Prop)(W:World):Prop:=G d/\G (d+1)/\ ∀b,G b->b<W.heap.size/\ ¬I b
def Tm{π:Type}(d:Nat)(G I:Nat->Prop)(W W0:World)(V:π->(Nat->Prop)->(Nat->Prop)->World->Prop)(Vx:Code->(Nat->Prop)->(Nat->Prop)->World->Prop)(k' :π):Exit->Act->World->Prop
 | .normal,_,W' =>dh d W0 W' /\ ∃G',((∀b,G' b->G b\/W.heap.size<=b)/\cG d G' I W')/\bC (λb=>G b\/W.heap.size<=b) W W' /\V k' G' I W'
 | .ret,_,W' =>dh d W0 W' /\ ∃G',((∀b,G' b->G b\/W.heap.size<=b)/\cG d G' I W')/\bC (λb=>G b\/W.heap.size<=b) W W' /\Vx .ret G' I W'
 | .exit id,_,W' =>dh d W0 W' /\ ∃G',((∀b,G' b->G b\/W.heap.size<=b)/\cG d G' I W')/\bC (λb=>G b\/W.heap.size<=b) W W' /\Vx (.exit id) G' I W'
 |_,_,_=>False
theorem bC.two{G:Nat->Prop}{w A B:World}{d n:Nat}(h:bC (λb=>G b\/n<=b) w A)(k:bL d A B)(hG:G d/\G (d+1))(hn:n<=A.heap.size):bC (λb=>G b\/n<=b) w B:=by
 refine⟨k.os.trans h.os,k.tape.trans h.tape,k.output.trans h.output,Nat.le_trans h.size k.size,λx hx=>?_⟩;have h1:x<A.heap.size:=by
  rcases Nat.lt_or_ge x A.heap.size with e|e
  . exact e
  . exact absurd (.inr (by omega)) hx
 exact(k.block x h1 (λe=>hx (.inl (e ▸ hG.1))) (λe=>hx (.inl (e ▸ hG.2)))).trans (h.block x hx)
theorem GD{P:Program}{g:Operand}{ps:Array Tmp}{assign body:Code}{Q:Exit->Act->World->Prop}{a:Act}{w:World}
 {gf:Nat} {lb:Array Value} (hg:a.eval g= .func (.func gf) #[] lb) (eg:∀args w,(callFunc gf args).run P w= .ok (.enter gf args) w)
 {S:Src} {O G0:Nat->Prop} (hseq:∀W,bL w.heap.size w W->W.heap.size=w.heap.size+2->Nh P gf lb S O G0 W) (hps:∀k x k',S.give k x k' ->x.length=ps.size)
 (V:S.π->(Nat->Prop)->(Nat->Prop)->World->Prop) (Vx:Code->(Nat->Prop)->(Nat->Prop)->World->Prop) (M:S.π->(Nat->Prop)->(Nat->Prop)->World->Act->World->Prop)
 (hV:∀k G I I' A B,V k G I A->cG w.heap.size G I A->(∀b,I' b->(I b\/A.heap.size<=b)/\b<B.heap.size)->bC (λb=>I b\/A.heap.size<=b) A B->V k G I' B)
 (hVx:∀c G I I' A B,Vx c G I A->cG w.heap.size G I A->(∀b,I' b->(I b\/A.heap.size<=b)/\b<B.heap.size)->bC (λb=>I b\/A.heap.size<=b) A B->Vx c G I' B)
 (hV2:∀k G I A B,V k G I A->cG w.heap.size G I A->bL w.heap.size A B->V k G I B) (hVx2:∀c G I A B,Vx c G I A->cG w.heap.size G I A->bL w.heap.size A B->Vx c G I B)
 (hM:∀k G I W a A B,M k G I W a A->bC (λb=>G b\/W.heap.size<=b) W A->w.heap.size+2<=A.heap.size->bL w.heap.size A B->M k G I W a B)
 (h0:∀W,bL w.heap.size w W->W.heap.size=w.heap.size+2->V S.s0 G0 (λ_=>False) W/\cG w.heap.size G0 (λ_=>False) W)
 (hassign:∀(l:Nat) (k k' :S.π) (x:List D) (vals:Array Value) (G I:Nat->Prop) (W:World),S.give k x k' ->vals.size=x.length->(∀(j:Nat) c,x[j]? =some c->Rep W (λb=>(O b\/G b)\/I b) c (vals.getD j Go.undef))->V k G I W->cG w.heap.size G I W ->
  assign.wpIn (Fence.wide.inRound l) 1 P (Exit.then (λa1 W1=>M k' G I W a1 W1/\bC (λb=>G b\/W.heap.size<=b) W W1/\dh w.heap.size W W1) (λ_ _ _=>False)) {tmps:=(ps.zip vals).foldl (λt (p,v)=>t.setIfInBounds p v) a.tmps,defers:=[]} W)
 (hbody:∀(l:Nat) (k' :S.π) (G I:Nat->Prop) (a1:Act) (W W0:World),cG w.heap.size G I W->bC (λb=>G b\/W.heap.size<=b) W W0->M k' G I W a1 W0->body.wpIn (Fence.wide.inRound l) 1 P (Tm w.heap.size G I W W0 V Vx k') a1 W0)
 (hdone:∀(k:S.π) (G I:Nat->Prop) (W:World),S.fin k->V k G I W->cG w.heap.size G I W->W.heap[w.heap.size]? =some (.deferred (some []))->Q .normal {a with defers:={target:= .collected w.heap.size,args:= #[]}::a.defers} W)
 (hstop:∀(c:Code) (G I:Nat->Prop) (W:World),Vx c G I W->cG w.heap.size G I W->W.heap[w.heap.size]? =some (.deferred (some []))->c.wpIn Fence.wide 3 P Q {a with defers:={target:= .collected w.heap.size,args:= #[]}::a.defers} W) :
 (Code.rangeFunc g ps assign body).wpIn Fence.wide 3 P Q a w:=by
 refine wpIn_rangeFunc ?_;intro fn hfn;obtain⟨rec,hrec⟩:∃rec:LoopState->Option Code->Loop,rec=λst pe=>{state:=st,pending:=pe,fn,tmps:=a.tmps,params:=ps,assign,body,defers:=w.heap.size}:=⟨_,rfl⟩
 obtain⟨W1,hW1⟩:∃W1,(w.alloc (.deferred (some []))).alloc (.loop (rec .ready none))=W1:=⟨_,rfl⟩
 have hL1:W1.heap[w.heap.size+1]? =some (.loop (rec .ready none)):=by
  rw[<- hW1];have:=World.alloc_heap_new (w.alloc (.deferred (some []))) (.loop (rec .ready none));rwa [World.size_alloc]at this
 have hK1:W1.heap[w.heap.size]? =some (.deferred (some [])):=by
  rw[<- hW1];exact(Below.heap_alloc _ _ _ (by simp)).trans (World.alloc_heap_new w _)
 have hk01:bL w.heap.size w W1:=by rw[<- hW1];exact bL.KC w _ _
 have hz1:W1.heap.size=w.heap.size+2:=by rw[<- hW1];simp[World.size_alloc]
 have stay:∀{G I:Nat->Prop} {A B:World} {o:Obj} {b:Nat},cG w.heap.size G I A->G b->bC (λb=>I b\/A.heap.size<=b) A B->A.heap[b]? =some o->B.heap[b]? =some o:=λ{G I A B o b} hg hb hf h=>by
  obtain⟨h1,h2⟩:=hg.2.2 b hb;exact(hf.block b (by rintro(e|e);exact h2 e;omega)).trans h
 have goodI:∀{G I I' :Nat->Prop} {A B:World},cG w.heap.size G I A->(∀b,I' b->(I b\/A.heap.size<=b)/\b<B.heap.size)->bC (λb=>I b\/A.heap.size<=b) A B->cG w.heap.size G I' B:=λ{G I I' A B} hg hi hf =>
  ⟨hg.1,hg.2.1,λb hb=>by
   obtain⟨h1,h2⟩:=hg.2.2 b hb;refine⟨Nat.lt_of_lt_of_le h1 hf.size,λe=>?_⟩;rcases (hi b e).1 with e|e
   . exact h2 e
   . omega⟩
 have goodK:∀{G I:Nat->Prop} {A B:World},cG w.heap.size G I A->A.heap.size<=B.heap.size->cG w.heap.size G I B:=λ{G I A B} hg hz =>
  ⟨hg.1,hg.2.1,λb hb=>⟨Nat.lt_of_lt_of_le (hg.2.2 b hb).1 hz,(hg.2.2 b hb).2⟩⟩
 have room:∀{G I:Nat->Prop} {A:World},cG w.heap.size G I A->w.heap.size+2<=A.heap.size:=λhg=>(hg.2.2 _ hg.2.1).1
 refine⟨w.heap.size+1,[{target:= .collected w.heap.size,args:= #[]}],W1,{target:= .fn (.func gf) lb,args:= #[]++ #[.func (.yield (w.heap.size+1)) #[] #[]]},W1,gf,
  #[]++ #[.func (.yield (w.heap.size+1)) #[] #[]]++lb,W1,?_,?_,λ_ _=>trivial,?_,(λ_=>by decide),?_⟩
 . rw[<- hW1,hrec];exact run_enterLoop_outer _ _ _ _ _
 . simp only[resolve,hg];simp[go_sem]
 . simp[invoke,go_sem,eg]
 . have hlt:∀{W:World} {o:Obj},W.heap[w.heap.size+1]? =some o->w.heap.size+2<=W.heap.size:=λh=>(bp.1 h).1
   refine(hseq W1 hk01 hz1 (w.heap.size+1)
    (λk G I W=>(V k G I W/\cG w.heap.size G I W)/\W.heap[w.heap.size+1]? =some (.loop (rec .ready none))/\W.heap[w.heap.size]? =some (.deferred (some [])))
    (λk G I W=> ∃c,(Vx c G I W/\cG w.heap.size G I W)/\W.heap[w.heap.size+1]? =some (.loop (rec .done (some c)))/\W.heap[w.heap.size]? =some (.deferred (some [])))
    (λk G I I' A B hs hi hf=>?_) (λk G I I' A B hs hi hf=>?_) ?_ ⟨h0 _ hk01 hz1,hL1,hK1⟩).mono ?_
   . obtain⟨⟨h1,h2⟩,h3,h4⟩:=hs;exact⟨⟨hV k G I I' A B h1 h2 hi hf,goodI h2 hi hf⟩,stay h2 h2.2.1 hf h3,stay h2 h2.1 hf h4⟩
   . obtain⟨c,⟨h1,h2⟩,h3,h4⟩:=hs;exact⟨c,⟨hVx c G I I' A B h1 h2 hi hf,goodI h2 hi hf⟩,stay h2 h2.2.1 hf h3,stay h2 h2.1 hf h4⟩
   . rintro k x k' vals G I W hx ⟨⟨hv,hgd⟩,hl,hk⟩ hvs hrep;have hl0:=hlt hl;have hy:=run_yield (P:=P) (args:=vals) hl (by rw[hrec];exact hvs.trans (hps k x k' hx));rw[hrec]at hy;refine⟨fn,_,assign,body,hy,roundIn_of_wpIn hfn (wpIn_mono (hassign _ k k' x vals G I W hx hvs hrep hv hgd) ?_)⟩;rintro e a1 W0 hp;cases e with
     |normal =>
      obtain⟨hm,hf0,hs0⟩:=hp;have hl' :=hs0.2.trans hl;have hk' :=hs0.1.trans hk;have hl0' :=hlt hl';refine⟨_,run_beginRound hl' (by rw[hrec]),?_⟩;have hl2:(W0.putObj (w.heap.size+1) (.loop {rec .ready none with state:= .busy})).heap[w.heap.size+1]? =some (.loop {rec .ready none with state:= .busy}):=World.putObj_heap_same (by omega);have hk2:(W0.putObj (w.heap.size+1) (.loop {rec .ready none with state:= .busy})).heap[w.heap.size]? =some (.deferred (some [])):=(World.putObj_heap_other (by omega)).trans hk'
      have hq2:bL w.heap.size W0 (W0.putObj (w.heap.size+1) (.loop {rec .ready none with state:= .busy})):=bL.putObj W0 _ (.inr rfl);have hf2:=hf0.two hq2 ⟨hgd.1,hgd.2.1⟩ hf0.size;refine wpIn_mono (hbody _ k' G I a1 W _ hgd hf2 (hM k' G I W a1 _ _ hm hf0 hl0' hq2)) ?_
      have fin : ∀ (jump : Option Code) (W3 : World), dh w.heap.size (W0.putObj (w.heap.size + 1) (.loop { rec .ready none with state := .busy })) W3 ->
          (Instr.endRound (w.heap.size+1) jump).run P W3= .ok (.bool jump.isNone) (W3.putObj (w.heap.size+1) (.loop (rec (if jump.isNone then .ready else .done) jump))) /\
          w.heap.size+2<=W3.heap.size /\
          (W3.putObj (w.heap.size+1) (.loop (rec (if jump.isNone then .ready else .done) jump))).heap[w.heap.size+1]? =some (.loop (rec (if jump.isNone then .ready else .done) jump)) /\
          (W3.putObj (w.heap.size+1) (.loop (rec (if jump.isNone then .ready else .done) jump))).heap[w.heap.size]? =some (.deferred (some [])):=λjump W3 hk3=>by
       have hl3:=hk3.2.trans hl2;have hz:=hlt hl3;have:=run_endRound (P:=P) jump hl3;rw[hrec]at this ⊢;exact⟨this,hz,World.putObj_heap_same (by omega),(World.putObj_heap_other (by omega)).trans (hk3.1.trans hk2)⟩
      have out : ∀ (jump : Option Code) (W3 : World) (G' : Nat -> Prop), (∀ b, G' b -> G b \/ W.heap.size <= b) -> cG w.heap.size G' I W3 -> bC (fun b => G b \/ W.heap.size <= b) W W3 -> ∀ st : LoopState,
          (∀b,G' b->(G b\/W.heap.size<=b)/\b<(W3.putObj (w.heap.size+1) (.loop (rec st jump))).heap.size)/\bC (λb=>G b\/W.heap.size<=b) W (W3.putObj (w.heap.size+1) (.loop (rec st jump)))/\bL w.heap.size W3 (W3.putObj (w.heap.size+1) (.loop (rec st jump))):=λjump W3 G' h1 h2 h3 st=>by
       have hq:=bL.putObj (d:=w.heap.size) W3 (.loop (rec st jump)) (.inr rfl);exact⟨λb hb=>⟨h1 b hb,Nat.lt_of_lt_of_le (h2.2.2 b hb).1 hq.size⟩,h3.two hq ⟨hgd.1,hgd.2.1⟩ h3.size,hq⟩
      rintro e a3 W3 hp;cases e with
      |normal =>
       obtain⟨hk3,G',⟨g1,g2⟩,hf3,hv3⟩:=hp;obtain⟨hr,hz,hl4,hk4⟩:=fin none W3 hk3;obtain⟨o1,o2,o3⟩:=out none W3 G' g1 g2 hf3 .ready;exact⟨_,_,hr,G',o1,o2,.inl ⟨rfl,⟨hV2 _ _ _ _ _ hv3 g2 o3,goodK g2 o3.size⟩,hl4,hk4⟩⟩
      |ret =>
       obtain⟨hk3,G',⟨g1,g2⟩,hf3,hv3⟩:=hp;obtain⟨hr,hz,hl4,hk4⟩:=fin (some .ret) W3 hk3;obtain⟨o1,o2,o3⟩:=out (some .ret) W3 G' g1 g2 hf3 .done;exact⟨_,_,hr,G',o1,o2,.inr ⟨rfl,.ret,⟨hVx2 _ _ _ _ _ hv3 g2 o3,goodK g2 o3.size⟩,hl4,hk4⟩⟩
      |exit id =>
       obtain⟨hk3,G',⟨g1,g2⟩,hf3,hv3⟩:=hp;obtain⟨hr,hz,hl4,hk4⟩:=fin (some (.exit id)) W3 hk3;obtain⟨o1,o2,o3⟩:=out (some (.exit id)) W3 G' g1 g2 hf3 .done;exact⟨_,_,hr,G',o1,o2,.inr ⟨rfl,.exit id,⟨hVx2 _ _ _ _ _ hv3 g2 o3,goodK g2 o3.size⟩,hl4,hk4⟩⟩
      |goto t=>exact hp.elim
      |panic ch=>exact hp.elim
      |outgrown=>exact hp.elim
     |_=>exact hp.elim
   . rintro e W2 ⟨⟨v,rfl⟩,(⟨kf,G,I,hfin,⟨hi,hgd⟩,hl,hk⟩|⟨k,G,I,c,⟨hi,hgd⟩,hl,hk⟩)⟩
     . have hz:=hlt hl;refine⟨none,_,by have:=run_endLoop (P:=P) hl (by rw[hrec];simp);rw[hrec]at this;exact this,?_⟩;have hq:=bL.putObj (d:=w.heap.size) W2 (.loop (rec .exhausted none)) (.inr rfl);rw[hrec]at hq;exact hdone kf G I _ hfin (hV2 _ _ _ _ _ hi hgd hq) (goodK hgd hq.size) ((World.putObj_heap_other (by omega)).trans hk)
     . have hz:=hlt hl;refine⟨some c,_,by have:=run_endLoop (P:=P) hl (by rw[hrec];simp);rw[hrec]at this;exact this,?_⟩;have hq:=bL.putObj (d:=w.heap.size) W2 (.loop (rec .exhausted (some c))) (.inr rfl);rw[hrec]at hq;exact hstop c G I _ (hVx2 _ _ _ _ _ hi hgd hq) (goodK hgd hq.size) ((World.putObj_heap_other (by omega)).trans hk)
def Cs(cx:Cx)(gf:Nat)(caps:List D)(S:Src):Prop :=
 (∀args w,(callFunc gf args).run cx.P w= .ok (.enter gf args) w) /\
 ∀(O G0:Nat->Prop) (w:World) (lb:Array Value),(∀b,O b\/G0 b->b<w.heap.size)->gu cx w->(∀g cells,cx.gl g=some cells-> ¬O g/\ ¬G0 g)->lb.size=caps.length ->
  (∀(j:Nat) d,caps[j]? =some d->Rep w (λb=>O b\/G0 b) d (lb.getD j Go.undef))->Nh cx.P gf lb S O G0 w
abbrev Kt(cx:Cx)(gf:Nat)(caps:List D)(xs:List (List D)):Prop:=Cs cx gf caps (As xs)
def vn(fx:List Nat):AV->Bool
 | .d _=>true
 | .nil _=>true
 | .undef=>true
 | .ptr s _=>bG s fx
 |_=>false
theorem nh:∀{l:List Nat} {s:Nat},bG s l=true->s∈l
 |[],s,h=>by simp[bG]at h
 |x::t,s,h=>by
  rw[uW]at h;split at h
  . rename_i e;rw[e];exact List.mem_cons_self ..
  . exact aK _ (nh h)
theorem JV{w w' :World}{O O' L L' :Nat->Prop}{σ σ' :Nat->Value}{fx:List Nat}{v:AV}{u:Value}(h:au w O L σ v u)(hv:vn fx v=true)(k:aQ w w' (Own O L σ) (Own O' L' σ'))(hfx:∀s∈fx,L' s/\σ' s=σ s):au w' O' L' σ' v u:=by
 cases h with
 |undef=>exact .undef _
 |d x v h=>exact .d _ _ (h.mono k)
 |nil=>exact .nil _
 |ptr s off b hL h =>
  have:=hfx s (nh hv);exact .ptr s off b this.1 (this.2.trans h)
 |_=>cases hv
def lN:List Nat->List D->List (Nat×AV)->List (Nat×AV)
 |p::ps,d::ds,sl=>lN ps ds ((p,d.cQ)::sl)
 |_,_,sl=>sl
theorem cg.reF{w:World}{F F' O L:Nat->Prop}{σ:Nat->Value}{s:Nat}{b:Blk}(h:cg w F O L σ s b)(hF:∀g,NQ.home (σ s)=some g->F' g):cg w F' O L σ s b:=by
 cases b with
 |box cells =>
  obtain⟨b,cur,t,h1,h2,h3⟩:=h;exact⟨b,cur,t,h1,hF b (by rw[h1];rfl),h3⟩
 |row e size rows fl =>
  obtain⟨xs,h1,h2,h3⟩:=h;exact⟨xs,h1,hF,h3⟩
 |smap m =>
  obtain⟨b,es,clock,h1,h2,h3⟩:=h;exact⟨b,es,clock,h1,hF b (by rw[h1];rfl),h3⟩
 |kmap m =>
  obtain⟨b,es,clock,h1,h2,h3⟩:=h;exact⟨b,es,clock,h1,hF b (by rw[h1];rfl),h3⟩
 |arow e size rows =>
  obtain⟨b,cur,t,h1,h2,h3⟩:=h;exact⟨b,cur,t,h1,hF b (by rw[h1];rfl),h3⟩
 |tail e size rows=>exact⟨h.1,hF⟩
 |iter left cur=>exact⟨h.1,hF⟩
def zh:Blk->Bool
 | .box _=>true
 | .iter .. =>true
 |_=>false
theorem Gh{w:World}{F O L:Nat->Prop}{σ:Nat->Value}{s:Nat}{b:Blk}(h:cg w F O L σ s b)(hb:zh b=true):∃g,σ s= .pointer (some ⟨g,0,none⟩):=by
 cases b with
 |box cells=>obtain⟨g,_,_,e,_⟩:=h;exact⟨g,e⟩
 |iter left cur=>obtain⟨⟨g,_,_,_,_,e,_⟩,_⟩:=h;exact⟨g,e⟩
 |_=>cases hb
theorem aU.move{cx:Cx}{E E' :Env}{hp:List (Nat×Blk)}{σ:Nat->Value}{a a' :Act}{w w' :World}(h:aU cx E ⟨[],hp⟩ σ a w)(k:aQ w w' (Own E.O (live hp) σ) (Own E'.O (live hp) σ))
 (hown:∀s b,live hp s->home (σ s)=some b->E'.F b/\w'.heap[b]? =w.heap[b]?) (hf:bC E'.F E'.w0 w') (hnew:∀b,E'.w0.heap.size<=b->E'.F b) (hap:∀b,E'.O b-> ¬E'.F b) (hd:a'.defers=E'.dfr) (hnt:a'.tmps.size=E'.nt)
 (hg:gu cx E'.w0) (hgF:∀g cells,cx.gl g=some cells-> ¬E'.F g/\ ¬E'.O g) (hfix:∀q0 B,E'.fix q0=some B->(E'.nt<=100000/\100000<=q0)/\(live hp q0->σ q0= .pointer (some ⟨B,0,none⟩))):aU cx E' ⟨[],hp⟩ σ a' w' :=by
 refine⟨hf,hnew,hap,hd,hnt,λt=> .undef _,⟨λs b hb=>?_,h.holds.inj⟩,hg,hgF,hfix⟩;have hl:live hp s:=aC.2 ⟨b,hb⟩;exact(cg.mono k (λs hs=>⟨hs,rfl⟩) hl (λg hg=>(hown s g hl hg).2) (h.holds.blk s b hb)).reF λg hg=>(hown s g hl hg).1
theorem aU.Tc{cx:Cx}{E:Env}{hp:List (Nat×Blk)}{sl:List (Nat×AV)}{σ:Nat->Value}{a:Act}{w:World}(h:aU cx E ⟨[],hp⟩ σ a w)(hs:∀t,au w E.O (live hp) σ (St.get ⟨sl,hp⟩ t) (a.tmps.getD t Go.undef)):aU cx E ⟨sl,hp⟩ σ a w :=
 ⟨h.frame,h.new,h.apart,h.defers,h.nt,hs,h.holds,h.glob,h.globF,h.fix⟩
theorem aU.bare{cx:Cx}{E:Env}{st:St}{σ:Nat->Value}{a:Act}{w:World}(h:aU cx E st σ a w):aU cx E ⟨[],st.heap⟩ σ a w :=
 ⟨h.frame,h.new,h.apart,h.defers,h.nt,λt=> .undef _,h.holds,h.glob,h.globF,h.fix⟩
def Marks(n0:Nat)(E:Env):Prop:= ∃bs:List Nat,E.dfr=bs.map (λb=>({target:= .collected b,args:= #[]}:Deferred))/\bs.Nodup/\ ∀b∈bs,n0<=b/\E.w0.heap[b]? =some (.deferred (some []))/\ ¬E.F b/\E.O b
structure Ext(E E' :Env):Prop where
 O:∀b,E.O b->E'.O b
 nt:E'.nt=E.nt
 fix:E'.fix=E.fix
 F:∀b,E'.F b->E.F b
 frame:bC E.F E.w0 E'.w0
 marks:∀n0,n0<=E.w0.heap.size->Marks n0 E->Marks n0 E'
theorem Ext.refl(E:Env):Ext E E:=⟨λ_ h=>h,rfl,rfl,λ_ h=>h,bC.refl _ _,λ_ _ h=>h⟩
theorem Ext.trans{A B C:Env}(h:Ext A B)(k:Ext B C):Ext A C :=
 ⟨λb hb=>k.O b (h.O b hb),k.nt.trans h.nt,k.fix.trans h.fix,λb hb=>h.F b (k.F b hb),
  ⟨k.frame.os.trans h.frame.os,k.frame.tape.trans h.frame.tape,k.frame.output.trans h.frame.output,Nat.le_trans h.frame.size k.frame.size,λb hb=>(k.frame.block b λe=>hb (h.F b e)).trans (h.frame.block b hb)⟩,
  λn0 hn m=>k.marks n0 (Nat.le_trans hn h.frame.size) (h.marks n0 hn m)⟩
def gy(cx:Cx)(st st' :St):Prop:= ∀(E:Env) a w,E.fix=(λ_=>none)->Sim cx E st a w->Sim cx E st' a w
theorem aj.zero{cx:Cx}{st st' :St}(h:aj cx st st'):gy cx st st' :=λE a w _ hs=>h E a w hs
theorem gy.trans{cx:Cx}{a b c:St}(h:gy cx a b)(k:gy cx b c):gy cx a c:=λE x w e hs=>k E x w e (h E x w e hs)
def vcr(cx:Cx)(nt:Nat)(fz:Nat->List Nat):Code->(Ex->St->Prop)->St->Prop
 | .skip,Q,st=>Q .normal st
 | .label _,Q,st=>Q .normal st
 | .seq a b,Q,st=>vcr cx nt fz a (λe s=>match e with| .normal=>vcr cx nt fz b Q s| .exit id=>Q (.exit id) s| .ret=>Q .ret s) st
 | .cond c a b,Q,st=>(match st.ev cx c with
  | .d (.bool t)=>oG t (vcr cx nt fz a Q st) (vcr cx nt fz b Q st)
  | .maybe p=>(p=true->vcr cx nt fz a Q st)/\vcr cx nt fz b Q st
  |_=>False)
 | .block id body,Q,st=>(match bG 44444 (fz (1000+id))with
  |true=> ∃st',gy cx st st' /\vcr cx nt fz body (λe s=>match e with| .normal=>Q .normal s| .exit j=>(match Nat.beq j id with|true=>Q .normal s|false=>Q (.exit j) s)| .ret=>Q .ret s) st'
  |false=>vcr cx nt fz body (λe s=>match e with| .normal=>Q .normal s| .exit j=>(match Nat.beq j id with|true=>Q .normal s|false=>Q (.exit j) s)| .ret=>Q .ret s) st)
 | .loop body, Q, st => ∃ (α : Type) (f : α -> St) (J : α -> Prop) (μ : α -> Nat), (∃ x, J x /\ aj cx st (f x)) /\
     ∀x,J x->vcr cx nt fz body (λe s=>match e with| .normal=> ∃y,J y/\μ y<μ x/\aj cx s (f y)| .exit j=>Q (.exit j) s| .ret=>Q .ret s) (f x)
 | .exit id,Q,st=>Q (.exit id) st
 | .ret,Q,st=>Q .ret st
 | .region id ops draw,Q,st=>(match bG 44444 (fz id)with
  |true=> ∃st',gy cx st st' /\vc cx nt fz (.region id ops draw) Q st'
  |false=>vc cx nt fz (.region id ops draw) Q st)
 | .scope c,Q,st=>vcr cx nt fz c Q st
 | .rangeFunc g ps assign body, Q, st => ∃ (gf : Nat) (caps : List D) (S : Src) (sl : List (Nat × AV)) (α : Type) (y0 : α) (H : S.π -> α -> List (Nat × Blk)) (fx : List Nat) (N : S.π -> α -> Prop), gy cx st ⟨sl, H S.s0 y0⟩ /\
     (St.ev cx ⟨sl,H S.s0 y0⟩ g= .d (.fn gf [] caps)/\Cs cx gf caps S/\(∀k x k',S.give k x k' ->x.length=ps.size)/\calm assign=true/\calm body=true) /\
     (nt<=100000/\(∀s∈fx,100000<=s/\ ∃b,find (H S.s0 y0) s=some b/\zh b=true)/\sl.all (λp=>vn fx p.2)=true/\ps.all (λp=>decide (p<nt))=true) /\
     N S.s0 y0/\(∀k x k' y,S.give k x k' ->N k y->vc cx nt fz assign (λe s=>match e with
      | .normal=>vc cx nt fz body (λe s=>match e with
       | .normal=> ∃y',(aj cx s ⟨[],H k' y'⟩/\ ∀s∈fx,live (H k' y') s)/\N k' y'
       | .exit j=> ∃hx,aj cx s ⟨[],hx⟩/\(∀s∈fx,live hx s)/\Q (.exit j) ⟨sl,hx⟩
       | .ret=> ∃hx,aj cx s ⟨[],hx⟩/\(∀s∈fx,live hx s)/\Q .ret ⟨sl,hx⟩) s
      |_=>False) ⟨lN ps.toList x sl,H k y⟩) /\
     (∀k y,S.fin k->N k y->Q .normal ⟨sl,H k y⟩)
 |_,_,_=>False
theorem BH{w:World}{O L:Nat->Prop}{σ:Nat->Value}{hp:List (Nat×Blk)}{nt:Nat}:∀(ps:List Nat) (ds:List D) (vs:List Value) (sl:List (Nat×AV)) (tm:Array Value),tm.size=nt->(∀p∈ps,p<nt)->vs.length=ds.length ->
 (∀(j:Nat) d,ds[j]? =some d->au w O L σ d.cQ (vs.getD j Go.undef))->(∀t,au w O L σ (St.get ⟨sl,hp⟩ t) (tm.getD t Go.undef)) ->
 ∀t,au w O L σ (St.get ⟨lN ps ds sl,hp⟩ t) (((ps.zip vs).foldl (λt (p,v)=>t.setIfInBounds p v) tm).getD t Go.undef)
 |[],ds,vs,sl,tm,_,_,_,_,h,t=>by simpa [lN] using h t
 |p::ps,[],vs,sl,tm,_,_,hl,_,h,t=>by
  have:vs=[]:=List.length_eq_zero_iff.1 hl;subst this;simpa [lN] using h t
 |p::ps,d::ds,[],sl,tm,_,_,hl,_,_,_=>by simp at hl
 |p::ps,d::ds,v::vs,sl,tm,hn,hp',hl,hr,h,t=>by
  rw[lN,List.zip_cons_cons,List.foldl_cons];refine BH ps ds vs _ _ (by simpa using hn) (λq hq=>hp' q (aK _ hq)) (by simpa using hl) (λj e he=>by have:=hr (j+1) e (by simpa using he);simpa using this) (λu=>?_) t;have hpn:=hp' p (List.mem_cons_self ..);unfold St.get;dsimp only;by_cases e:p=u
  . subst e;rw[aJ];have:(tm.setIfInBounds p v).getD p Go.undef=v:=by
     rw[bd,Array.getElem?_setIfInBounds_self_of_lt (by omega)];rfl
    show au w O L σ d.cQ _
    rw[this];simpa using hr 0 d rfl
  . rw[aS _ _ e];have:(tm.setIfInBounds p v).getD u Go.undef=tm.getD u Go.undef:=by
     rw[bd,Array.getElem?_setIfInBounds_ne e, <- bd]
    rw[this];exact h u
theorem Lq(ps:List Nat)(vs:List Value)(tm:Array Value):((ps.zip vs).foldl (λt (p,v)=>t.setIfInBounds p v) tm).size=tm.size:=by
 induction ps generalizing vs tm with
 |nil=>rfl
 |cons p ps ih =>
  cases vs with
  |nil=>rfl
  |cons v vs=>rw[List.zip_cons_cons,List.foldl_cons,ih];simp
theorem gu.DC{cx:Cx}{F:Nat->Prop}{w B:World}(hg:gu cx w)(hf:bC F w B)(hF:∀g cells,cx.gl g=some cells-> ¬F g):gu cx B:=λg cells h=>by
 obtain⟨h1,h2,h3⟩:=hg g cells h;refine⟨Nat.lt_of_lt_of_le h1 hf.size,h2,λj d hj=>?_⟩;obtain⟨u,hu,hr⟩:=h3 j d hj;refine⟨u,(World.cell?_of_block (a:=⟨g,j,none⟩) (hf.block g (hF g cells h))).trans hu,hr.eU (av.1 h2 d (ao hj))⟩
theorem aU.CE{cx:Cx}{E E' :Env}{st:St}{σ:Nat->Value}{a:Act}{w w' :World}(h:aU cx E st σ a w)(k:aQ w w' (Own E.O (live st.heap) σ) (Own E'.O (live st.heap) σ))
 (hown:∀s b,live st.heap s->home (σ s)=some b->E'.F b/\w'.heap[b]? =w.heap[b]?) (hf:bC E'.F E'.w0 w') (hnew:∀b,E'.w0.heap.size<=b->E'.F b) (hap:∀b,E'.O b-> ¬E'.F b) (hd:a.defers=E'.dfr) (hnt:a.tmps.size=E'.nt)
 (hg:gu cx E'.w0) (hgF:∀g cells,cx.gl g=some cells-> ¬E'.F g/\ ¬E'.O g) (hfix:∀q0 B,E'.fix q0=some B->(E'.nt<=100000/\100000<=q0)/\(live st.heap q0->σ q0= .pointer (some ⟨B,0,none⟩))):aU cx E' st σ a w' :=by
 refine⟨hf,hnew,hap,hd,hnt,λt=>(h.slots t).mono k λs hs=>⟨hs,rfl⟩,⟨λs b hb=>?_,h.holds.inj⟩,hg,hgF,hfix⟩;have hl:live st.heap s:=aC.2 ⟨b,hb⟩;exact(cg.mono k (λs hs=>⟨hs,rfl⟩) hl (λg hg=>(hown s g hl hg).2) (h.holds.blk s b hb)).reF λg hg=>(hown s g hl hg).1
theorem xL:∀{l:List Nat} {s:Nat},s∈l->bG s l=true
 |[],s,h=>by cases h
 |x::t,s,h=>by
  rw[uW];split
  . rfl
  . rename_i hne;rcases List.mem_cons.1 h with e|h
    . exact absurd e hne
    . exact xL h
theorem Fo(ps:Array Tmp)(x:Array Value)(tm:Array Value):(ps.zip x).foldl (λt (p,v)=>t.setIfInBounds p v) tm=(ps.toList.zip x.toList).foldl (λt (p,v)=>t.setIfInBounds p v) tm:=by
 rw[<- Array.foldl_toList,Array.toList_zip]
theorem Pe{cx:Cx}{nt:Nat}{fz:Nat->List Nat}(hT:bl cx)(hm:cx.P.follows .mixedOrders=true){E:Env}(h0:E.fix=λ_=>none)(hn:E.nt=nt){g:Operand}{ps:Array Tmp}{assign body:Code}{Q:Ex->St->Prop}{st:St}{a:Act}{w:World}{R:Exit->Act->World->Prop}
 (h:vcr cx nt fz (.rangeFunc g ps assign body) Q st) (hs:Sim cx E st a w) (hR:∀E' e st' a' w',Ext E E' ->Q e st' ->Sim cx E' st' a' w' ->R e.out a' w'):(Code.rangeFunc g ps assign body).wp cx.P R a w:=by
 obtain⟨gf,caps,S,sl,α,y0,H,fx,N,hw,⟨hgv,hit,hxl,hca,hcb⟩,⟨hnt,hfx,hsl,hps⟩,hN0,hround,hend⟩:=h;obtain⟨σ₀,hs0⟩:=hw E a w h0 hs;have hgr:=hs0.ev (St.le.refl _) g;rw[hgv]at hgr;obtain⟨lb,hga,hlb,hcaps⟩:∃lb,a.eval g= .func (.func gf) #[] lb/\lb.size=caps.length/\ ∀(j:Nat) d,caps[j]? =some d->Rep w (Own E.O (live (H S.s0 y0)) σ₀) d (lb.getD j Go.undef):=by
  generalize a.eval g=u at hgr
  cases hgr with|d _ _ hr =>
   cases hr with|fn f first caps zs vs hx hl h1 h2 _ =>
    have:zs= #[]:=Array.eq_empty_of_size_eq_zero hx;subst this;exact⟨vs,rfl,hl,h2⟩
 obtain⟨d,hdw⟩:∃d,w.heap.size=d:=⟨_,rfl⟩
 have hown0:∀s b,live (H S.s0 y0) s->home (σ₀ s)=some b->E.F b/\b<d:=λs b hl e=>hdw ▸ hs0.holds.home hl e
 obtain⟨F,hFd⟩:∃F:Nat->Prop,F=λb=>(∃s,live (H S.s0 y0) s/\home (σ₀ s)=some b)\/d<=b:=⟨_,rfl⟩
 have hFE:∀b,F b->E.F b:=λb hb=>by
  rw[hFd]at hb;rcases hb with ⟨s,hl,e⟩|hb
  . exact(hown0 s b hl e).1
  . exact hs0.new b (Nat.le_trans hs0.frame.size (hdw ▸ hb))
 have hFnew:∀b,d<=b->F b:=λb hb=>by rw[hFd];exact .inr hb
 have hOlt:∀b,E.O b->b<d:=λb hb=>by
  rcases Nat.lt_or_ge b d with e|e
  . exact e
  . exact absurd (hFE b (hFnew b e)) (hs0.apart b hb)
 have hgF:∀g cells,cx.gl g=some cells-> ¬F g:=λg cells hg hf=>(hs0.globF g cells hg).1 (hFE g hf)
 have hgw:gu cx w:=hs0.lF;obtain⟨fix2,hfix2⟩:∃f:Nat->Option Nat,f=λs=>if bG s fx=true then home (σ₀ s)else none:=⟨_,rfl⟩
 obtain⟨Eb,hEb⟩:∃Eb:(Nat->Prop)->(Nat->Prop)->World->Env,Eb=λG I W=>⟨λb=>(G b/\b≠d/\b≠d+1)\/W.heap.size<=b,λb=>(E.O b\/b=d\/b=d+1)\/I b,W,E.nt,fix2,[]⟩:=⟨_,rfl⟩
 have eF:∀G I W,(Eb G I W).F=λb=>(G b/\b≠d/\b≠d+1)\/W.heap.size<=b:=λG I W=>by rw[hEb]
 have eO:∀G I W,(Eb G I W).O=λb=>(E.O b\/b=d\/b=d+1)\/I b:=λG I W=>by rw[hEb]
 have eW:∀G I W,(Eb G I W).w0=W:=λG I W=>by rw[hEb]
 have eN:∀G I W,(Eb G I W).nt=E.nt:=λG I W=>by rw[hEb]
 have eX:∀G I W,(Eb G I W).fix=fix2:=λG I W=>by rw[hEb]
 have eD:∀G I W,(Eb G I W).dfr=[]:=λG I W=>by rw[hEb]
 have hbox:∀s∈fx,100000<=s/\ ∃b,σ₀ s= .pointer (some ⟨b,0,none⟩)/\fix2 s=some b/\live (H S.s0 y0) s:=λs hm=>by
  obtain⟨h1,blk,h2,h3⟩:=hfx s hm;obtain⟨b,e⟩:=Gh (hs0.holds.blk s _ h2) h3;refine⟨h1,b,e,?_,aC.2 ⟨_,h2⟩⟩;have:=xL hm;rw[hfix2];show(if bG s fx=true then home (σ₀ s)else none)=some b
  rw[if_pos this,e];rfl
 have hfixN:∀q0 B,fix2 q0=some B->E.nt<=100000/\100000<=q0:=λq0 B hq=>by
  rw[hfix2]at hq;have hq' :(if bG q0 fx=true then home (σ₀ q0)else none)=some B:=hq;by_cases hm:bG q0 fx=true
  . exact⟨by rw[hn];exact hnt,(hbox q0 (nh hm)).1⟩
  . rw[if_neg hm]at hq';cases hq'
 obtain⟨Set2,hSet⟩:∃S:(Nat->Prop)->(Nat->Prop)->World->Prop,S=λG I W=>bC F w W/\(∀b,G b->F b)/\ ∀b,I b->d+2<=b/\b<W.heap.size:=⟨_,rfl⟩
 have place : ∀ {G I : Nat -> Prop} {W : World}, Set2 G I W -> cG d G I W -> d + 2 <= W.heap.size /\ (∀ b, (Eb G I W).F b -> F b) /\ (∀ b, (Eb G I W).O b -> ¬ (Eb G I W).F b) /\ (∀ b, W.heap.size <= b -> (Eb G I W).F b) /\ gu cx W /\
     (∀g cells,cx.gl g=some cells-> ¬(Eb G I W).F g/\ ¬(Eb G I W).O g)/\(¬(Eb G I W).F d/\ ¬(Eb G I W).F (d+1)):=λ{G I W} hS hT2=>by
  rw[hSet]at hS;obtain⟨s1,s2,s3⟩:=hS;have hz:=(hT2.2.2 _ hT2.2.1).1;have hzw:=s1.size;have hFF:∀b,(Eb G I W).F b->F b:=λb hb=>by
   rw[eF]at hb;rcases hb with hb|hb
   . exact s2 b hb.1
   . exact hFnew b (by omega)
  refine⟨hz,hFF,λb hb hf=>?_,λb hb=>by rw[eF];exact .inr hb,hgw.DC s1 hgF,λg cells hg=>⟨λhf=>hgF g cells hg (hFF g hf),λho=>?_⟩,?_,?_⟩
  . rw[eO]at hb;rw[eF]at hf;rcases hf with ⟨f1,f2,f3⟩|hf
    . rcases hb with (hb|hb|hb)|hb
      . exact hs0.apart b hb (hFE b (s2 b f1))
      . exact f2 hb
      . exact f3 hb
      . exact(hT2.2.2 b f1).2 hb
    . rcases hb with (hb|hb|hb)|hb
      . have:=hOlt b hb;omega
      . omega
      . omega
      . have:=(s3 b hb).2;omega
  . have hlt:=(hgw g cells hg).1;rw[eO]at ho;rcases ho with (ho|ho|ho)|ho
    . exact(hs0.globF g cells hg).2 ho
    . omega
    . omega
    . have:=(s3 g ho).1;omega
  . rw[eF];rintro(⟨_,h,_⟩|h)
    . exact h rfl
    . omega
  . rw[eF];rintro(⟨_,_,h⟩|h)
    . exact h rfl
    . omega
 obtain⟨Inv,hInv⟩:∃Inv:List (Nat×Blk)->(Nat->Prop)->(Nat->Prop)->World->Prop,Inv=λhp G I W=>Set2 G I W/\(∃σ,aU cx (Eb G I W) ⟨[],hp⟩ σ {tmps:=a.tmps,defers:=[]} W)/\ ∀s∈fx,live hp s:=⟨_,rfl⟩
 have rebase : ∀ {s : St} {σ : Nat -> Value} {a1 : Act} {G I G' I' : Nat -> Prop} {A A' B : World}, aU cx (Eb G I A) s σ a1 A' -> d + 2 <= A.heap.size -> Set2 G' I' B -> cG d G' I' B -> A'.heap.size <= B.heap.size ->
     (∀x b,live s.heap x->home (σ x)=some b->(Eb G I A).F b->b<A'.heap.size->G' b/\B.heap[b]? =A'.heap[b]?)->(∀b,¬(Eb G I A).O b->b<A'.heap.size->(¬ ∃x,live s.heap x/\home (σ x)=some b)->B.heap[b]? =A'.heap[b]? /\ ¬I' b)->aU cx (Eb G' I' B) s σ a1 B:=λ{s σ a1 G I G' I' A A' B} h2 hz hS hT2 hsz hh hno=>by
  obtain⟨p1,p2,p3,p4,p5,p6,p7⟩:=place hS hT2;refine h2.CE ⟨hsz,λb hnb hb=>(hno b (λe=>hnb (.inl e)) hb λ⟨x,e⟩=>hnb (.inr ⟨x,e⟩)).1,λb hnb hb ho=>hnb ?_⟩ (λx b hl e=>?_) (by rw[eW];exact bC.refl _ _) (by rw[eW];exact p4) p3 ?_ ?_ (by rw[eW];exact p5) p6 ?_
  . rcases ho with ho|ho
    . have hI:=(hno b (λe=>hnb (.inl e)) hb λ⟨x,e⟩=>hnb (.inr ⟨x,e⟩)).2;rw[eO]at ho;refine .inl ?_;rw[eO];rcases ho with ho|ho
      . exact .inl ho
      . exact absurd ho hI
    . exact .inr ho
  . obtain⟨f1,f2⟩:=h2.holds.home hl e;obtain⟨g1,g2⟩:=hh x b hl e f1 f2;refine⟨?_,g2⟩;rw[eF]at f1 ⊢;refine .inl ⟨g1,?_⟩;rcases f1 with f1|f1
    . exact f1.2
    . omega
  . rw[h2.defers,eD,eD]
  . rw[h2.nt,eN,eN]
  . intro q0 B' hq;have:=h2.fix q0 B' (by rw[eX]at hq ⊢;exact hq);rw[eN]at this ⊢;exact this
 have home_in:∀{s:St} {σ:Nat->Value} {a1:Act} {G I:Nat->Prop} {A:World} {x b:Nat},aU cx (Eb G I A) s σ a1 A->live s.heap x->home (σ x)=some b->G b/\b≠d/\b≠d+1:=λ{s σ a1 G I A x b} h hl e=>by
  obtain⟨f1,f2⟩:=h.holds.home hl e;rw[eF]at f1;rcases f1 with f1|f1
  . exact f1
  . omega
 have set_kept:∀{G I:Nat->Prop} {A B:World},Set2 G I A->cG d G I A->bL d A B->Set2 G I B/\cG d G I B:=λ{G I A B} hS hT2 hk=>by
  have hz:=(hT2.2.2 _ hT2.2.1).1;rw[hSet]at hS ⊢;exact⟨⟨hS.1.eE hk hFnew (by omega),hS.2.1,λb hb=>⟨(hS.2.2 b hb).1,Nat.lt_of_lt_of_le (hS.2.2 b hb).2 hk.size⟩⟩,hT2.1,hT2.2.1,λb hb=>⟨Nat.lt_of_lt_of_le (hT2.2.2 b hb).1 hk.size,(hT2.2.2 b hb).2⟩⟩
 have sim_kept:∀{s:St} {σ:Nat->Value} {a1:Act} {G I:Nat->Prop} {A B:World},aU cx (Eb G I A) s σ a1 A->Set2 G I A->cG d G I A->bL d A B->aU cx (Eb G I B) s σ a1 B:=λ{s σ a1 G I A B} h hS hT2 hk=>by
  have hz:=(hT2.2.2 _ hT2.2.1).1;obtain⟨k1,k2⟩:=set_kept hS hT2 hk;refine rebase h hz k1 k2 hk.size (λx b hl e f1 f2=>?_) (λb ho hb _=>?_)
  . obtain⟨g1,g2,g3⟩:=home_in h hl e;exact⟨g1,hk.block b f2 g2 g3⟩
  . rw[eO]at ho;exact⟨hk.block b hb (λe=>ho (.inl (.inr (.inl e)))) (λe=>ho (.inl (.inr (.inr e)))),λe=>ho (.inr e)⟩
 have inv_kept:∀hp G I A B,Inv hp G I A->cG d G I A->bL d A B->Inv hp G I B:=λhp G I A B hi hT2 hk=>by
  rw[hInv]at hi ⊢;obtain⟨h1,⟨σ,h2⟩,h3⟩:=hi;exact⟨(set_kept h1 hT2 hk).1,⟨σ,sim_kept h2 h1 hT2 hk⟩,h3⟩
 have inv_iter:∀hp G I I' A B,Inv hp G I A->cG d G I A->(∀b,I' b->(I b\/A.heap.size<=b)/\b<B.heap.size)->bC (λb=>I b\/A.heap.size<=b) A B->Inv hp G I' B:=λhp G I I' A B hi hT2 hI hf=>by
  have hz:=(hT2.2.2 _ hT2.2.1).1;rw[hInv]at hi ⊢;obtain⟨h1,⟨σ,h2⟩,h3⟩:=hi;have h1' :=h1;rw[hSet]at h1';obtain⟨s1,s2,s3⟩:=h1';have hS:Set2 G I' B:=by
   rw[hSet];refine⟨⟨hf.os.trans s1.os,hf.tape.trans s1.tape,hf.output.trans s1.output,Nat.le_trans s1.size hf.size,λb hb=>(hf.block b ?_).trans (s1.block b hb)⟩,s2,λb hb=>⟨?_,(hI b hb).2⟩⟩
   . have hlt:b<d:=by
      rcases Nat.lt_or_ge b d with e|e
      . exact e
      . exact absurd (hFnew b e) hb
     rintro(e|e)
     . have:=(s3 b e).1;omega
     . omega
   . rcases (hI b hb).1 with e|e
     . exact(s3 b e).1
     . omega
  have hT3:cG d G I' B:=⟨hT2.1,hT2.2.1,λb hb=>by
   obtain⟨t1,t2⟩:=hT2.2.2 b hb;refine⟨Nat.lt_of_lt_of_le t1 hf.size,λe=>?_⟩;rcases (hI b e).1 with e|e
   . exact t2 e
   . omega⟩
  refine⟨hS,⟨σ,rebase h2 hz hS hT3 hf.size (λx b hl e f1 f2=>?_) (λb ho hb _=>?_)⟩,h3⟩
  . obtain⟨g1,_⟩:=home_in h2 hl e;obtain⟨t1,t2⟩:=hT2.2.2 b g1;exact⟨g1,hf.block b (by rintro(e|e);exact t2 e;omega)⟩
  . rw[eO]at ho;have hnI:¬I b:=λe=>ho (.inr e)
    refine⟨hf.block b (by rintro(e|e);exact hnI e;omega),λe=>?_⟩;rcases (hI b e).1 with e|e
    . exact hnI e
    . omega
 have settle : ∀ {s : St} {σ : Nat -> Value} {a1 : Act} {G I : Nat -> Prop} {W W' : World}, aU cx (Eb G I W) s σ a1 W' -> Set2 G I W -> cG d G I W -> ∃ G' : Nat -> Prop, (∀ b, G' b -> G b \/ W.heap.size <= b) /\ Set2 G' I W' /\ cG d G' I W' /\ bC (fun b => G b \/ W.heap.size <= b) W W' /\ dh d W W' /\
     aU cx (Eb G' I W') s σ a1 W' :=λ{s σ a1 G I W W'} h hS hT2=>by
  obtain⟨p1,p2,p3,p4,p5,p6,p7⟩:=place hS hT2;have hfr:=h.frame;rw[eW]at hfr;have hzz:=hfr.size;have hS' :=hS;rw[hSet]at hS';obtain⟨s1,s2,s3⟩:=hS';have hin:∀{x b},live s.heap x->home (σ x)=some b->(Eb G I W).F b/\b<W'.heap.size:=λhl e=>h.holds.home hl e
  obtain⟨G',hG'⟩:∃G' :Nat->Prop,G' =λb=>(∃x,live s.heap x/\home (σ x)=some b)\/b=d\/b=d+1:=⟨_,rfl⟩
  have hS2:Set2 G' I W' :=by
   rw[hSet,hG'];refine⟨⟨hfr.os.trans s1.os,hfr.tape.trans s1.tape,hfr.output.trans s1.output,Nat.le_trans s1.size hfr.size,λb hb=>(hfr.block b λe=>hb (p2 b e)).trans (s1.block b hb)⟩,?_,λb hb=>⟨(s3 b hb).1,by have:=(s3 b hb).2;omega⟩⟩;rintro b (⟨x,hl,e⟩|rfl|rfl)
   . exact p2 b (hin hl e).1
   . exact hFnew _ (Nat.le_refl _)
   . exact hFnew _ (Nat.le_succ _)
  have hT3:cG d G' I W' :=by
   rw[hG'];refine⟨.inr (.inl rfl),.inr (.inr rfl),?_⟩;rintro b (⟨x,hl,e⟩|rfl|rfl)
   . obtain⟨f1,f2⟩:=hin hl e;exact⟨f2,λhi=>p3 b (by rw[eO];exact .inr hi) f1⟩
   . exact⟨by omega,λhi=>by have:=(s3 _ hi).1;omega⟩
   . exact⟨by omega,λhi=>by have:=(s3 _ hi).1;omega⟩
  refine⟨G',?_,hS2,hT3,⟨hfr.os,hfr.tape,hfr.output,hfr.size,λb hb=>hfr.block b λe=>hb ?_⟩,⟨hfr.block d p7.1,hfr.block (d+1) p7.2⟩,rebase h p1 hS2 hT3 (Nat.le_refl _) (λx b hl e f1 f2=>⟨by rw[hG'];exact .inl ⟨x,hl,e⟩,rfl⟩) (λb ho hb _=>⟨rfl,λe=>ho (by rw[eO];exact .inr e)⟩)⟩
  . rw[hG'];rintro b (⟨x,hl,e⟩|rfl|rfl)
    . have f1:=(hin hl e).1;rw[eF]at f1;rcases f1 with f1|f1
      . exact .inl f1.1
      . exact .inr f1
    . exact .inl hT2.1
    . exact .inl hT2.2.1
  . rw[eF]at e;rcases e with e|e
    . exact .inl e.1
    . exact .inr e
 have fix_eq:∀{hp:List (Nat×Blk)} {σ:Nat->Value} {G I:Nat->Prop} {W W' :World} {st:St} {a1:Act},aU cx (Eb G I W) st σ a1 W' ->st.heap=hp-> ∀s∈fx,live hp s->σ s=σ₀ s:=λh e s hm hl=>by
  obtain⟨_,b,e1,e2,_⟩:=hbox s hm;rw[e1];exact(h.fix s b (by rw[eX];exact e2)).2 (e ▸ hl)
 have slots_ok:∀{hp:List (Nat×Blk)} {σ:Nat->Value} {G I:Nat->Prop} {W:World} {a1:Act},Set2 G I W->aU cx (Eb G I W) ⟨[],hp⟩ σ a1 W->(∀s∈fx,live hp s)-> ∀t,au W (Eb G I W).O (live hp) σ (St.get ⟨sl,hp⟩ t) (a.tmps.getD t Go.undef):=λ{hp σ G I W a1} hS hsim hlv t=>by
  have hS' :=hS;rw[hSet]at hS';obtain⟨s1,s2,s3⟩:=hS';have hk:aQ w W (Own E.O (live (H S.s0 y0)) σ₀) (Own (Eb G I W).O (live hp) σ):=by
   refine⟨s1.size,λb hn hb=>s1.block b λhF=>?_,λb hn hb ho=>?_⟩
   . rw[hFd]at hF;rcases hF with ⟨s,hl,e⟩|hF
     . exact hn (.inr ⟨s,hl,e⟩)
     . omega
   . rcases ho with ho|⟨s,hl,e⟩
     . rw[eO]at ho;rcases ho with (ho|rfl|rfl)|ho
       . exact hn (.inl ho)
       . omega
       . omega
       . have:=(s3 b ho).1;omega
     . have:=s2 b (home_in hsim hl e).1;rw[hFd]at this;rcases this with ⟨s',hl',e'⟩|h
       . exact hn (.inr ⟨s',hl',e'⟩)
       . omega
  have h0:=hs0.slots t;show au W (Eb G I W).O (live hp) σ (match find sl t with|some v=>v|none=> .undef) _
  have hg0:St.get ⟨sl,H S.s0 y0⟩ t=match find sl t with|some v=>v|none=> .undef:=rfl
  rw[hg0]at h0;cases hfs:find sl t with
  |none=>exact .undef _
  |some v =>
   rw[hfs]at h0;have hv:vn fx v=true:=by
    have:∀(l:List (Nat×AV)),l.all (λp=>vn fx p.2)=true->find l t=some v->vn fx v=true:=by
     intro l;induction l with
     |nil=>intro _ h;cases h
     |cons p r ih =>
      intro h1 h2;simp only[List.all_cons,ay]at h1;obtain⟨k,x⟩:=p;by_cases e:k=t
      . subst e;rw[aJ]at h2;cases h2;exact h1.1
      . rw[aS _ _ e]at h2;exact ih h1.2 h2
    exact this sl hsl hfs
   exact JV h0 hv hk λs hm=>⟨hlv s hm,fix_eq hsim rfl s hm (hlv s hm)⟩
 have leave : ∀ {s : St} {a1 : Act} {G I : Nat -> Prop} {W W' : World} {hp : List (Nat × Blk)}, Set2 G I W -> cG d G I W -> Sim cx (Eb G I W) s a1 W' -> aj cx s ⟨[], hp⟩ -> (∀ x ∈ fx, live hp x) ->
     dh d W W' /\ ∃G',((∀b,G' b->G b\/W.heap.size<=b)/\cG d G' I W')/\bC (λb=>G b\/W.heap.size<=b) W W' /\Inv hp G' I W' :=λ{s a1 G I W W' hp} hS hT2 hsim hwk hlv=>by
  obtain⟨σ,h1⟩:=hwk _ _ _ hsim;obtain⟨G',g1,g2,g3,g4,g5,g6⟩:=settle h1 hS hT2;refine⟨g5,G',⟨g1,g3⟩,g4,?_⟩;rw[hInv];exact⟨g2,⟨σ,⟨g6.frame,g6.new,g6.apart,by rw[eD],by rw[eN];exact hs0.nt,λt=> .undef _,g6.holds,g6.glob,g6.globF,g6.fix⟩⟩,hlv⟩
 have after:∀{hp:List (Nat×Blk)} {G I:Nat->Prop} {W:World},Inv hp G I W->cG d G I W->W.heap[d]? =some (.deferred (some []))-> ∃E3,Ext E E3/\Sim cx E3 ⟨sl,hp⟩ {a with defers:={target:= .collected d,args:= #[]}::a.defers} W:=λ{hp G I W} hi hT2 hmk=>by
  rw[hInv]at hi;obtain⟨hS,⟨σ,h2⟩,hlv⟩:=hi;have hsl2:=slots_ok hS h2 hlv;obtain⟨p1,p2,p3,p4,p5,p6,p7⟩:=place hS hT2;have hS' :=hS;rw[hSet]at hS';obtain⟨hf,s2,s3⟩:=hS';have nd:∀x b,live hp x->home (σ x)=some b->(Eb G I W).F b/\b<W.heap.size:=λx b hl e=>h2.holds.home hl e
  obtain⟨O3,hO3⟩:∃O3:Nat->Prop,(Eb G I W).O=O3:=⟨_,rfl⟩
  have hO3' :O3=λb=>(E.O b\/b=d\/b=d+1)\/I b:=by rw[<- hO3];exact eO G I W
  refine⟨⟨λb=>(∃s,live hp s/\home (σ s)=some b)\/W.heap.size<=b,O3,W,E.nt,E.fix,{target:= .collected d,args:= #[]}::E.dfr⟩,⟨λb hb=>(by show O3 b;rw[hO3'];exact .inl (.inl hb)),rfl,rfl,?_,?_,?_⟩,σ,?_⟩
  . rintro b (⟨s,hl,e⟩|hb)
    . exact hFE b (p2 b (nd s b hl e).1)
    . exact hFE b (hFnew b (by omega))
  . exact⟨hf.os.trans hs0.frame.os,hf.tape.trans hs0.frame.tape,hf.output.trans hs0.frame.output,Nat.le_trans hs0.frame.size hf.size,λb hb=>(hf.block b λe=>hb (hFE b e)).trans (hs0.frame.block b hb)⟩
  . rintro n0 hn0 ⟨bs,m1,m2,m3⟩;have low:∀b∈bs,b<d:=λb hb=>by
     have:=(m3 b hb).2.2.1;have hlt:b<E.w0.heap.size:=by
      rcases Nat.lt_or_ge b E.w0.heap.size with h|h
      . exact h
      . exact absurd (hs0.new b h) this
     have:=hs0.frame.size;omega
    refine⟨d::bs,by show _::E.dfr=_;rw[m1];rfl,List.nodup_cons.2 ⟨λh=>by have:=low d h;omega,m2⟩,λb hb=>?_⟩;rcases List.mem_cons.1 hb with rfl|hb
    . refine⟨by have:=hs0.frame.size;omega,hmk,?_,by show O3 b;rw[hO3'];exact .inl (.inr (.inl rfl))⟩;rintro(⟨s,hl,e⟩|hb)
      . exact p7.1 (nd s b hl e).1
      . omega
    . obtain⟨e1,e2,e3,e4⟩:=m3 b hb;refine⟨e1,((hf.block b λe=>e3 (hFE b e)).trans (hs0.frame.block b e3)).trans e2,?_,by show O3 b;rw[hO3'];exact .inl (.inl e4)⟩;rintro(⟨s,hl,e⟩|hb)
      . exact e3 (hFE b (p2 b (nd s b hl e).1))
      . exact e3 (hFE b (hFnew b (by omega)))
  . have hless' :aQ W W (Own (Eb G I W).O (live hp) σ) (Own O3 (live hp) σ):=by rw[hO3];exact aQ.refl _ _
    have hbare:=h2.move (E' :=⟨λb=>(∃s,live hp s/\home (σ s)=some b)\/W.heap.size<=b,O3,W,E.nt,E.fix,{target:= .collected d,args:= #[]}::E.dfr⟩) (a' :={a with defers:={target:= .collected d,args:= #[]}::a.defers}) (w' :=W)
     hless' (λs b hl e=>⟨.inl ⟨s,hl,e⟩,rfl⟩) (bC.refl _ _) (λb hb=> .inr hb) (λb hb hF=>?_) (by show _=_;rw[hs0.defers]) hs0.nt p5 (λg cells hg=>⟨λhF=>?_,by rw[<- hO3];exact(p6 g cells hg).2⟩) (λq0 B hq=>by
      have hq:E.fix q0=some B:=hq;rw[h0]at hq;cases hq)
    . refine hbare.Tc λt=>?_
      have:=hsl2 t;rw[hO3]at this;exact this
    . rcases hF with ⟨s,hl,e⟩|hF
      . exact p3 b (by rw[hO3];exact hb) (nd s b hl e).1
      . exact p3 b (by rw[hO3];exact hb) (p4 b hF)
    . rcases hF with ⟨s,hl,e⟩|hF
      . exact(p6 g cells hg).1 (nd s g hl e).1
      . exact(p6 g cells hg).1 (p4 g hF)
 obtain⟨G0,hG0⟩:∃G0:Nat->Prop,G0=λb=>(∃s,live (H S.s0 y0) s/\home (σ₀ s)=some b)\/b=d\/b=d+1:=⟨_,rfl⟩
 have set0:∀W,bL d w W->W.heap.size=d+2->Set2 G0 (λ_=>False) W/\cG d G0 (λ_=>False) W:=λW hk hz=>by
  rw[hSet,hG0];refine⟨⟨(bC.refl F w).eE hk hFnew (by omega),?_,λb hb=>hb.elim⟩,.inr (.inl rfl),.inr (.inr rfl),?_⟩
  . rintro b (⟨s,hl,e⟩|rfl|rfl)
    . rw[hFd];exact .inl ⟨s,hl,e⟩
    . exact hFnew _ (Nat.le_refl _)
    . exact hFnew _ (Nat.le_succ _)
  . rintro b (⟨s,hl,e⟩|rfl|rfl)
    . have:=(hown0 s b hl e).2;exact⟨by omega,λh=>h⟩
    . exact⟨by omega,λh=>h⟩
    . exact⟨by omega,λh=>h⟩
 have hseq:∀W,bL d w W->W.heap.size=d+2->Nh cx.P gf lb S E.O G0 W:=λW hk hz=>by
  obtain⟨hS,hT2⟩:=set0 W hk hz;obtain⟨p1,p2,p3,p4,p5,p6,p7⟩:=place hS hT2;refine hit.2 E.O G0 W lb ?_ p5 (λg cells hg=>⟨(hs0.globF g cells hg).2,λhg0=>?_⟩) hlb (λj dd hd=>(hcaps j dd hd).mono ⟨hk.size,λb hn hb=>hk.block b hb (by omega) (by omega),λb hn hb ho=>?_⟩)
  . rintro b (hb|hb)
    . have:=hOlt b hb;omega
    . exact(hT2.2.2 b hb).1
  . rw[hSet]at hS;exact hgF g cells hg (hS.2.1 g hg0)
  . rcases ho with ho|ho
    . exact hn (.inl ho)
    . rw[hG0]at ho;rcases ho with ⟨s,hl,e⟩|rfl|rfl
      . exact hn (.inr ⟨s,hl,e⟩)
      . omega
      . omega
 subst hdw;refine wpIn_wide.1 (GD (S:=S) (O:=E.O) (G0:=G0) hga hit.1 hseq hxl (λk G I W=> ∃y,N k y/\Inv (H k y) G I W)
  (λc G I W=> ∃hp,Inv hp G I W/\((c= .ret/\Q .ret ⟨sl,hp⟩)\/ ∃j,c= .exit j/\Q (.exit j) ⟨sl,hp⟩))
  (fun k G I W a1 W0 => ∃ s σ G1, ((∀ b, G1 b -> G b \/ W.heap.size <= b) /\ Set2 G1 I W0 /\ cG w.heap.size G1 I W0) /\ aU cx (Eb G1 I W0) s σ a1 W0 /\ vc cx nt fz body (fun e s => match e with
        | .normal=> ∃y',(aj cx s ⟨[],H k y'⟩/\ ∀s∈fx,live (H k y') s)/\N k y'
        | .exit j=> ∃hx,aj cx s ⟨[],hx⟩/\(∀s∈fx,live hx s)/\Q (.exit j) ⟨sl,hx⟩
        | .ret=> ∃hx,aj cx s ⟨[],hx⟩/\(∀s∈fx,live hx s)/\Q .ret ⟨sl,hx⟩) s)
  (λk G I I' A B ⟨y,h1⟩ h2 h3 h4=>⟨y,h1.1,inv_iter _ G I I' A B h1.2 h2 h3 h4⟩) (λc G I I' A B h1 h2 h3 h4=>?_) (λk G I A B ⟨y,h1⟩ h2 h3=>⟨y,h1.1,inv_kept _ G I A B h1.2 h2 h3⟩) (λc G I A B h1 h2 h3=>?_)
  (λk G I W a1 A B h hf hz hk=>?_) (λW hk hz=>?_) (λl k k' x vals G I W hx hvs hvr hi hT2=>?_) (λl k' G I a1 W W0 hT2 hf hM=>?_) (λkf G I W hfin hi hT2 hmk=>?_) (λc G I W hi hT2 hmk=>?_))
 . obtain⟨hp,k1,k2⟩:=h1;exact⟨hp,inv_iter hp G I I' A B k1 h2 h3 h4,k2⟩
 . obtain⟨hp,k1,k2⟩:=h1;exact⟨hp,inv_kept hp G I A B k1 h2 h3,k2⟩
 . obtain⟨s,σ,G1,⟨g1,g2,g3⟩,h1,h2⟩:=h;obtain⟨k1,k2⟩:=set_kept g2 g3 hk;exact⟨s,σ,G1,⟨g1,k1,k2⟩,sim_kept h1 g2 g3 hk,h2⟩
 . obtain⟨hS,hT2⟩:=set0 W hk hz;obtain⟨p1,p2,p3,p4,p5,p6,p7⟩:=place hS hT2;refine⟨⟨y0,hN0,?_⟩,hT2⟩;rw[hInv];refine⟨hS,⟨σ₀,?_⟩,λs hm=>(hbox s hm).2.choose_spec.2.2⟩;refine hs0.bare.move (E' :=Eb G0 (λ_=>False) W) (a' :={tmps:=a.tmps,defers:=[]}) (w' :=W) ⟨hk.size,λb hn hb=>hk.block b hb (by omega) (by omega),λb hn hb ho=>?_⟩ (λs b hl e=>?_) ?_ ?_ p3 ?_ ?_ ?_ p6 ?_
   . rcases ho with ho|ho
     . rw[eO]at ho;rcases ho with (ho|rfl|rfl)|ho
       . exact hn (.inl ho)
       . omega
       . omega
       . exact ho
     . exact hn (.inr ho)
   . have hlt:=(hown0 s b hl e).2;exact⟨by rw[eF];exact .inl ⟨by rw[hG0];exact .inl ⟨s,hl,e⟩,by omega,by omega⟩,hk.block b hlt (by omega) (by omega)⟩
   . rw[eW];exact bC.refl _ _
   . intro b hb;rw[eW]at hb;exact p4 b hb
   . rw[eD]
   . rw[eN];exact hs0.nt
   . rw[eW];exact p5
   . intro q0 B hq;rw[eX]at hq;refine⟨by rw[eN];exact hfixN q0 B hq,λ_=>?_⟩;rw[hfix2]at hq;have hq' :(if bG q0 fx=true then home (σ₀ q0)else none)=some B:=hq;by_cases hm:bG q0 fx=true
     . rw[if_pos hm]at hq';obtain⟨h1,b,e1,_⟩:=hbox q0 (nh hm);rw[e1]at hq';cases hq';exact e1
     . rw[if_neg hm]at hq';cases hq'
 . obtain⟨y,hi⟩:=hi;have hi' :=hi.2;rw[hInv]at hi';obtain⟨hS,⟨σ,h2⟩,hlv⟩:=hi';have hsl2:=slots_ok hS h2 hlv;have hkF:aQ W W (λb=>(E.O b\/G b)\/I b) (Own (Eb G I W).O (live (H k y)) σ):=aQ.less λb ho=>by
    rcases ho with ho|⟨s,hl,e⟩
    . rw[eO]at ho;rcases ho with (ho|rfl|rfl)|ho
      . exact .inl (.inl ho)
      . exact .inl (.inr hT2.1)
      . exact .inl (.inr hT2.2.1)
      . exact .inr ho
    . exact .inl (.inr (home_in h2 hl e).1)
   have hset:=BH (w:=W) (O:=(Eb G I W).O) (L:=live (H k y)) (σ:=σ) (hp:=H k y) (nt:=E.nt) ps.toList x vals.toList sl a.tmps hs0.nt (λp hp=>by have:=av.1 (by rw[<- Array.all_toList]at hps;exact hps) p hp;rw[hn];simpa using this) (by rw[Array.length_toList];exact hvs)
    (λj dd hj=>fe (by have:=(hvr j dd hj).mono hkF;simpa using this)) hsl2
   have hsim:Sim cx (Eb G I W) ⟨lN ps.toList x sl,H k y⟩ {tmps:=(ps.zip vals).foldl (λt (p,v)=>t.setIfInBounds p v) a.tmps,defers:=[]} W:=by
    refine⟨σ,⟨h2.frame,h2.new,h2.apart,by rw[eD],?_,λt=>?_,h2.holds,h2.glob,h2.globF,h2.fix⟩⟩
    . show((ps.zip vals).foldl _ a.tmps).size=_
      rw[Fo,Lq,eN];exact hs0.nt
    . show au W (Eb G I W).O (live (H k y)) σ _ (((ps.zip vals).foldl (λt (p,v)=>t.setIfInBounds p v) a.tmps).getD t Go.undef)
      rw[Fo];exact hset t
   refine Hw hT hm (E:=Eb G I W) (by rw[eN];exact hn) assign hca (hround k x k' y hx hi.1) hsim λe s a1 W1 hq hs1=>?_
   cases e with
   |normal =>
    obtain⟨σ1,h1⟩:=hs1;obtain⟨G',g1,g2,g3,g4,g5,g6⟩:=settle h1 hS hT2;exact⟨⟨s,σ1,G',⟨g1,g2,g3⟩,g6,hq⟩,g4,g5⟩
   |exit j=>exact hq.elim
   |ret=>exact hq.elim
 . obtain⟨s,σ,G1,⟨g1,g2,g3⟩,h1,h3⟩:=hM;have lift:∀{W' :World} {hp:List (Nat×Blk)} {G' :Nat->Prop},(∀b,G' b->G1 b\/W0.heap.size<=b)->bC (λb=>G1 b\/W0.heap.size<=b) W0 W' ->(∀b,G' b->G b\/W.heap.size<=b)/\bC (λb=>G b\/W.heap.size<=b) W W' :=λ{W' hp G'} q1 q2=>by
    have up:∀b,G1 b\/W0.heap.size<=b->G b\/W.heap.size<=b:=λb hb=>by
     rcases hb with hb|hb
     . exact g1 b hb
     . exact .inr (Nat.le_trans hf.size hb)
    exact⟨λb hb=>up b (q1 b hb),⟨q2.os.trans hf.os,q2.tape.trans hf.tape,q2.output.trans hf.output,Nat.le_trans hf.size q2.size,λb hb=>(q2.block b λe=>hb (up b e)).trans (hf.block b hb)⟩⟩
   refine Hw hT hm (E:=Eb G1 I W0) (by rw[eN];exact hn) body hcb h3 ⟨σ,h1⟩ λe s' a' W' hq hs' =>?_
   cases e with
   |normal =>
    obtain⟨y',hq⟩:=hq;obtain⟨l1,G',⟨l2,l3⟩,l4,l5⟩:=leave g2 g3 hs' hq.1.1 hq.1.2;obtain⟨u1,u2⟩:=lift (hp:=[]) l2 l4;exact⟨l1,G',⟨u1,l3⟩,u2,y',hq.2,l5⟩
   |exit j =>
    obtain⟨hx,q1,q2,q3⟩:=hq;obtain⟨l1,G',⟨l2,l3⟩,l4,l5⟩:=leave g2 g3 hs' q1 q2;obtain⟨u1,u2⟩:=lift (hp:=[]) l2 l4;exact⟨l1,G',⟨u1,l3⟩,u2,hx,l5,.inr ⟨j,rfl,q3⟩⟩
   |ret =>
    obtain⟨hx,q1,q2,q3⟩:=hq;obtain⟨l1,G',⟨l2,l3⟩,l4,l5⟩:=leave g2 g3 hs' q1 q2;obtain⟨u1,u2⟩:=lift (hp:=[]) l2 l4;exact⟨l1,G',⟨u1,l3⟩,u2,hx,l5,.inl ⟨rfl,q3⟩⟩
 . obtain⟨y,hi⟩:=hi;obtain⟨E3,x1,x2⟩:=after hi.2 hT2 hmk;exact hR E3 .normal _ _ _ x1 (hend kf y hfin hi.1) x2
 . obtain⟨hp,h1,h2⟩:=hi;obtain⟨E3,x1,x2⟩:=after h1 hT2 hmk;rcases h2 with ⟨rfl,hq⟩|⟨j,rfl,hq⟩
   . exact wpIn_ret (hR E3 .ret _ _ _ x1 hq x2)
   . exact wpIn_exit (hR E3 (.exit j) _ _ _ x1 hq x2)
theorem MS{cx:Cx}{nt:Nat}{fz:Nat->List Nat}(hT:bl cx)(hm:cx.P.follows .mixedOrders=true):∀(c:Code) {E:Env} (h0:E.fix=λ_=>none) (hn:E.nt=nt) {Q:Ex->St->Prop} {st:St} {a:Act} {w:World} {R:Exit->Act->World->Prop},vcr cx nt fz c Q st->Sim cx E st a w ->
 (∀E' e st' a' w',Ext E E' ->Q e st' ->Sim cx E' st' a' w' ->R e.out a' w')->c.wp cx.P R a w:=by
 intro c;induction c with
 |skip=>intro E h0 hn Q st a w R h hs hR;exact wp_skip (hR E .normal st a w (.refl E) h hs)
 |label l=>intro E h0 hn Q st a w R h hs hR;exact wp_label (hR E .normal st a w (.refl E) h hs)
 |exit id=>intro E h0 hn Q st a w R h hs hR;exact wp_exit (hR E (.exit id) st a w (.refl E) h hs)
 |ret=>intro E h0 hn Q st a w R h hs hR;exact wp_ret (hR E .ret st a w (.refl E) h hs)
 |seq x y ihx ihy =>
  intro E h0 hn Q st a w R h hs hR;refine wp_seq (ihx h0 hn (R:=Exit.then (y.wp cx.P R) R) h hs λE' e st' a' w' hx hq hs' =>?_);cases e with
  |normal=>exact ihy (hx.fix.trans h0) (hx.nt.trans hn) hq hs' λE2 e st' a' w' h2 hq hs' =>hR E2 e st' a' w' (hx.trans h2) hq hs'
  |exit id=>exact hR E' (.exit id) st' a' w' hx hq hs'
  |ret=>exact hR E' .ret st' a' w' hx hq hs'
 |cond c x y ihx ihy =>
  intro E h0 hn Q st a w R h hs hR;simp only[vcr]at h;split at h
  . rename_i t ht;have hr:a.eval c= .bool t:=by
     obtain⟨σ,hs⟩:=hs;have:=hs.ev (St.le.refl st) c;rw[ht]at this;exact this.bool
    cases t with
    |true=>exact wp_cond_true hr (ihx h0 hn h hs hR)
    |false=>exact wp_cond_false hr (ihy h0 hn h hs hR)
  . rename_i p ht;have hr:∃t,a.eval c= .bool t/\(t=true->p=true):=by
     obtain⟨σ,hs⟩:=hs;have:=hs.ev (St.le.refl st) c;rw[ht]at this;generalize a.eval c=u at this;cases this with|maybe _ b hb=>exact⟨b,rfl,hb⟩
    obtain⟨t,hr,hp⟩:=hr;cases t with
    |true=>exact wp_cond_true hr (ihx h0 hn (h.1 (hp rfl)) hs hR)
    |false=>exact wp_cond_false hr (ihy h0 hn h.2 hs hR)
  . exact h.elim
 |block id body ih =>
  intro E h0 hn Q st a w R h hs hR;have main:∀st,vcr cx nt fz body (λe s=>match e with| .normal=>Q .normal s| .exit j=>(match Nat.beq j id with|true=>Q .normal s|false=>Q (.exit j) s)| .ret=>Q .ret s) st->Sim cx E st a w->(Code.block id body).wp cx.P R a w:=λst h hs=>by
   refine wp_block (ih h0 hn (R:=Exit.inBlock id R) h hs λE' e st' a' w' hx hq hs' =>?_);cases e with
   |normal=>exact hR E' .normal st' a' w' hx hq hs'
   |exit j =>
    dsimp only at hq;split at hq
    . rename_i hj;have hj:=aP hj;simp only[Ex.out,Exit.inBlock,hj,if_true];exact hR E' .normal st' a' w' hx hq hs'
    . rename_i hj;have hj:j≠id:=λe=>by subst e;simp at hj
      simp only[Ex.out,Exit.inBlock,hj,if_false];exact hR E' (.exit j) st' a' w' hx hq hs'
   |ret=>exact hR E' .ret st' a' w' hx hq hs'
  simp only[vcr]at h;split at h
  . obtain⟨st',h1,h2⟩:=h;exact main st' h2 (h1 E a w h0 hs)
  . exact main st h hs
 |loop body ih =>
  intro E h0 hn Q st a w R h hs hR;obtain⟨α,f,J,μ,⟨x,hx,hw⟩,hround⟩:=h;refine wp_loop_ghost (λn a w=> ∃y E',Ext E E' /\J y/\μ y=n/\Sim cx E' (f y) a w) (μ x) ⟨x,E,.refl E,hx,rfl,hw E a w hs⟩ ?_;rintro n a w ⟨y,E1,hx1,hy,rfl,hs'⟩;refine ih (hx1.fix.trans h0) (hx1.nt.trans hn) (hround y hy) hs' λE' e st' a' w' hx' hq hs'' =>?_
  cases e with
  |normal =>
   obtain⟨z,hz,hlt,hw'⟩:=hq;exact⟨μ z,hlt,z,E',hx1.trans hx',hz,rfl,hw' E' a' w' hs''⟩
  |exit j=>exact hR E' (.exit j) st' a' w' (hx1.trans hx') hq hs''
  |ret=>exact hR E' .ret st' a' w' (hx1.trans hx') hq hs''
 |region id ops draw =>
  intro E h0 hn Q st a w R h hs hR;simp only[vcr]at h;cases hb:bG 44444 (fz id)with
  |false=>rw[hb]at h;exact zI hT hm hn _ h hs λe st' a' w' hq hs' =>hR E e st' a' w' (.refl E) hq hs'
  |true =>
   rw[hb]at h;obtain⟨st',hw,h⟩:=h;exact zI hT hm hn _ h (hw E a w h0 hs) λe st' a' w' hq hs' =>hR E e st' a' w' (.refl E) hq hs'
 |scope c ih =>
  intro E h0 hn Q st a w R h hs hR;refine wp_scope_straight (ih h0 hn (R:=Exit.noGoto R) h hs λE' e st' a' w' hx hq hs' =>?_);cases e <;> exact hR E' _ st' a' w' hx hq hs'
 |rangeFunc g ps x y ihx ihy=>intro E h0 hn Q st a w R h hs hR;exact Pe hT hm h0 hn h hs hR
 |_=>intro E h0 hn Q st a w R h;exact h.elim
theorem Hn{cx:Cx}(hT:bl cx){fn:Func}{v:AV}{bs:List (Nat×Blk)}{st' :St}{E:Env}{a' :Act}{w' :World}(hq:rC cx fn.results.toList v bs st')(hs' :Sim cx E st' a' w') :
 ∃u,(results fn a'.tmps).run cx.P w' = .ok u w' /\ ∃τ,Holds w' E.F E.O bs τ/\au w' E.O (live bs) τ v u:=by
 have run:∀{st2:St} {τ:Nat->Value} {v0:AV},aU cx E st2 τ a' w' ->oz cx st2 fn.results.toList=some v0-> ∃u,(results fn a'.tmps).run cx.P w' = .ok u w' /\au w' E.O (live st2.heap) τ v0 u:=by
  intro st2 τ v0 hs2 hr;unfold oz at hr;have hres:∀us:List Value,(fn.results.toList.mapM (pT a'.tmps)).run cx.P w' = .ok us w' ->(results fn a'.tmps).run cx.P w' = .ok (if h:us.toArray.size=1 then us.toArray[0]else .tuple us.toArray) w' :=λus hus=>by
   have hm:(fn.results.mapM (pT a'.tmps)).run cx.P w' = .ok us.toArray w' :=by
    rw[Array.mapM_eq_mapM_toList];simp[hus]
   rw[tj];simp only[Sem.run_bind,hm,Result.andThen,Sem.run_pure]
  split at hr
  . rename_i v1 hv;cases hr;obtain⟨us,h1,h2,h3⟩:=kA hT hs2 _ _ hv
    match us,h2 with
    |[u],_=>exact⟨u,by rw[hres _ h1];simp,by simpa using h3 0 _ rfl⟩
  . rename_i vs0 hne hv;cases hr;obtain⟨us,h1,h2,h3⟩:=kA hT hs2 _ _ hv;have hl:¬us.length=1:=λe=>by
     rw[h2]at e
     match vs0,e with
     |[x],_=>exact hne x rfl
    exact⟨.tuple us.toArray,by rw[hres _ h1];simp[hl],.tuple _ _ (by simp[h2]) λj c hj=>by simpa [List.getD] using h3 j c hj⟩
  . cases hr
 rcases hq with ⟨rfl,hr⟩|⟨st2,hw,rfl,hr⟩|⟨v0,hr,hk⟩
 . obtain⟨τ,hs2⟩:=hs';unfold JJ at hr;split at hr
   . rename_i v0 hv0;obtain⟨u,hu,hru⟩:=run hs2 hv0;refine⟨u,hu,λ_=> .nilFunc,⟨λs b hs=>by simp[find]at hs,λs s' b hs=>by simp[live,find]at hs⟩,?_⟩;have lift:∀{x:D} {z:Value},Rep w' E.O x z->au w' E.O (live []) (λ_=>Value.nilFunc) x.cQ z:=λh=>fe (h.mono (aQ.less λb hb=>by
      rcases hb with hb|⟨s,hl,_⟩
      . exact hb
      . simp[live,find]at hl))
     unfold IA at hr;split at hr
     . split at hr
       . rename_i xs hxs;cases hr;obtain⟨l1,l2⟩:=bI hxs;cases hru with|tuple _ us hl hh =>
          refine .tuple _ _ (by simp[hl,l1]) λj c hj=>?_
          rw[aM]at hj;cases hx:xs[j]? with
          |none=>rw[hx]at hj;cases hj
          |some x =>
           rw[hx]at hj;cases hj;obtain⟨c0,hc0,hv⟩:=l2 j x hx;exact lift (oi hs2.holds hs2.apart hv (hh j c0 hc0))
       . cases hr
     . split at hr
       . rename_i x hx;cases hr;exact lift (oi hs2.holds hs2.apart hx hru)
       . cases hr
   . cases hr
 . obtain⟨τ,hs2⟩:=hw E a' w' hs';obtain⟨u,hu,hru⟩:=run hs2 hr;exact⟨u,hu,τ,hs2.holds,hru⟩
 . obtain⟨σ,hs2⟩:=hs';obtain⟨u,hu,hru⟩:=run hs2 hr;obtain⟨τ,h1,h2⟩:=hk E σ a' w' u hs2 hru;exact⟨u,hu,τ,h1,h2⟩
theorem uV{cx:Cx}{fn:Func}{R:Ending->World->Prop}{n0:Nat}{w0:World}:∀(bs:List Nat) {E:Env} {st:St} {a:Act} {w:World},Sim cx E st a w->bs.Nodup->(∀b∈bs,n0<=b/\w.heap[b]? =some (.deferred (some []))/\ ¬E.F b/\E.O b)->Below n0 w0 w ->
 (∀(E' :Env) (w' :World),Sim cx E' st {a with defers:=[]} w' ->(∀b,E'.F b->E.F b)->(∀b,E.O b->E'.O b)->Below n0 w0 w' -> ∃v,(results fn a.tmps).run cx.P w' = .ok v w' /\R (.returned v) w') ->
 LeavesInM Fence.wide 3 cx.P fn a.tmps R (bs.map λb=>({target:= .collected b,args:= #[]}:Deferred)) .returning w
 |[],E,st,a,w,hs,_,_,hb,hR=>by
  obtain⟨σ,h⟩:=hs;obtain⟨v,h1,h2⟩:=hR {E with dfr:=[]} w ⟨σ,⟨h.frame,h.new,h.apart,rfl,h.nt,h.slots,h.holds,h.glob,h.globF,h.fix⟩⟩ (λ_ h=>h) (λ_ h=>h) hb;exact⟨v,h1,h2⟩
 |b::bs,E,st,a,w,hs,hnd,hok,hb,hR=>by
  obtain⟨m1,m2⟩:=List.nodup_cons.1 hnd;obtain⟨o1,o2,o3,o4⟩:=hok b (List.mem_cons_self ..);obtain⟨σ,h⟩:=hs;refine⟨by simp,.inl ⟨b,_,rfl,run_takeDeferred o2,?_⟩⟩;obtain⟨w2,hw2⟩:∃w2,w.putObj b (.deferred none)=w2:=⟨_,rfl⟩
  have hoth:∀g,g≠b->w2.heap[g]? =w.heap[g]? :=λg hg=>by rw[<- hw2];exact World.putObj_heap_other hg
  have hsz:w2.heap.size=w.heap.size:=by rw[<- hw2];simp[World.putObj]
  have hE:aU cx {E with w0:=w2} st σ a w2:=by
   refine h.CE ⟨by omega,λg hn _=>hoth g λe=>hn (.inl (e ▸ o4)),λg hn _ ho=>hn ho⟩ (λs g hl e=>?_) (bC.refl _ _) (λg hg=>h.new g ?_) h.apart h.defers h.nt ?_ h.globF h.fix
   . obtain⟨f1,_⟩:=h.holds.home hl e;exact⟨f1,hoth g λe=>o3 (e ▸ f1)⟩
   . have:=h.frame.size;have hg:w2.heap.size<=g:=hg;omega
   . exact h.lF.DC (F:=λg=>g=b) ⟨by rw[<- hw2];rfl,by rw[<- hw2];rfl,by rw[<- hw2];rfl,Nat.le_of_eq hsz.symm,λg hg=>hoth g hg⟩ λg cells hg e=>(h.globF g cells hg).2 (e ▸ o4)
  rw[hw2];refine uV bs (E:={E with w0:=w2}) ⟨σ,hE⟩ m2 (λg hg=>?_) ?_ hR
  . obtain⟨p1,p2,p3,p4⟩:=hok g (aK _ hg);exact⟨p1,(hoth g λe=>m1 (e ▸ hg)).trans p2,p3,p4⟩
  . rw[<- hw2];exact hb.put o1 _
theorem uH{cx:Cx}(fz:Nat->List Nat)(hT:bl cx)(hm:cx.P.follows .mixedOrders=true){f:FuncId}{fn:Func}{c:Code}{args:List D}{v:AV}{bs:List (Nat×Blk)}(hf:cx.P.funcs[f]? =some fn)(hname:(fn.name== "runtime.NumGoroutine")=false)(hb:fn.body=some c)
 (hargs:args.length<=fn.ntmps) (h:vcr cx fn.ntmps fz c (fnQ cx fn.results.toList v bs) ⟨dZ 0 args,[]⟩):Fn cx f args v bs:=by
 refine⟨⟨fn,hf,hname,by rw[hb];rfl⟩,λO w vs hO hG hGO hsz hrep=>?_⟩;refine callsIn_wide.1 (callsIn_of_wp_marks (F:=Fence.wide) (n:=3) hf hb trivial ?_ rfl)
 let E:Env:=⟨(w.heap.size<= ·),O,w,fn.ntmps,λ_=>none,[]⟩
 have hs:Sim cx E ⟨dZ 0 args,[]⟩ {tmps:=vs++Array.replicate (fn.ntmps-vs.size) Go.undef,defers:=[]} w:=by
  refine⟨λ_=> .nilFunc,⟨rfl,rfl,rfl,Nat.le_refl _,λ_ _=>rfl⟩,λb hb=>hb,λb hb=>Nat.not_le.2 (hO b hb),rfl,?_,λt=>?_,⟨λs b hs=>by simp[find]at hs,λs s' b hs=>by simp[live,find]at hs⟩,hG,λg cells hg=>⟨Nat.not_le.2 (hG g cells hg).1,hGO g cells hg⟩,λq0 B hB=>by cases hB⟩
  . show(vs++Array.replicate (fn.ntmps-vs.size) Go.undef).size=fn.ntmps
    simp;omega
  . show au w O (live []) _ (St.get ⟨dZ 0 args,[]⟩ t) _
    have hOwn:∀b,Own O (live []) (λ_=>Value.nilFunc) b->O b:=λb hb=>by
     rcases hb with hb|⟨s,hl,_⟩
     . exact hb
     . simp[live,find]at hl
    simp only[St.get,jA,Nat.zero_le,if_true,Nat.sub_zero];cases ht:args[t]? with
    |none=>exact .undef _
    |some x =>
     have hlt:t<vs.size:=by rw[hsz];exact(ar.1 ht).1
     have:(vs++Array.replicate (fn.ntmps-vs.size) Go.undef).getD t Go.undef=vs.getD t Go.undef:=by simp[Array.getElem?_append,hlt]
     rw[this];exact fe ((hrep t x ht).mono (aQ.less hOwn))
 refine wpIn_wide.2 (MS hT hm c (E:=E) rfl rfl h hs λE1 e st' a' w' hx hq hs' =>?_);have key:rC cx fn.results.toList v bs st' ->LeavesInM Fence.wide 3 cx.P fn a'.tmps (λe w' => ∃u τ,e= .returned u/\Below w.heap.size w w' /\Holds w' (w.heap.size<= ·) O bs τ/\au w' O (live bs) τ v u) a'.defers .returning w' :=by
  intro hq;obtain⟨σ,hs1⟩:=hs';obtain⟨ms,k1,k2,k3⟩:=hx.marks w.heap.size (Nat.le_refl _) ⟨[],rfl,List.nodup_nil,λb hb=>by cases hb⟩;rw[hs1.defers,k1];have fr:∀b,¬E.F b->w'.heap[b]? =w.heap[b]? :=λb hb=>(hs1.frame.block b λe=>hb (hx.F b e)).trans (hx.frame.block b hb)
  have bel:Below w.heap.size w w' :=⟨hs1.frame.os.trans hx.frame.os,hs1.frame.tape.trans hx.frame.tape,hs1.frame.output.trans hx.frame.output,Nat.le_trans hx.frame.size hs1.frame.size,λk hk=>fr k (Nat.not_le.2 hk)⟩
  refine uV (n0:=w.heap.size) (w0:=w) ms (E:=E1) ⟨σ,hs1⟩ k2 (λb hb=>?_) bel λE2 w2 hs2 hF2 hO2 bel2=>?_
  . obtain⟨p1,p2,p3,p4⟩:=k3 b hb;exact⟨p1,(hs1.frame.block b p3).trans p2,p3,p4⟩
  . obtain⟨u,hu,τ,hh,hr⟩:=Hn hT (fn:=fn) hq hs2;have less:aQ w2 w2 (Own E2.O (live bs) τ) (Own O (live bs) τ):=aQ.less λb hb=>by
     rcases hb with hb|hb
     . exact .inl (hO2 b (hx.O b hb))
     . exact .inr hb
    refine⟨u,hu,u,τ,rfl,bel2,⟨λs b hb=>?_,hh.inj⟩,hr.mono less λs hs=>⟨hs,rfl⟩⟩;have hl:live bs s:=aC.2 ⟨b,hb⟩;exact(cg.mono less (λs hs=>⟨hs,rfl⟩) hl (λ_ _=>rfl) (hh.blk s b hb)).reF λg hg=>hx.F g (hF2 g (hh.home hl hg).1)
 cases e with
 |normal=>exact key hq
 |ret=>exact key hq
 |exit id=>exact hq.elim
theorem yN{cx:Cx}(fz:Nat->List Nat)(hT:bl cx)(hm:cx.P.follows .mixedOrders=true){f:FuncId}{fn:Func}{c:Code}{args:List AV}{ι:Type}{res:ι->AV}{bs:ι->List (Nat×Blk)}(hf:cx.P.funcs[f]? =some fn)(hname:(fn.name== "runtime.NumGoroutine")=false)(hb:fn.body=some c)
 (hargs:args.length<=fn.ntmps) (h:vcr cx fn.ntmps fz c (λe st=> ∃i,fnQ cx fn.results.toList (res i) (bs i) e st) ⟨gH 0 args,[]⟩):FnC cx f args res bs:=by
 refine⟨⟨fn,hf,hname,by rw[hb];rfl⟩,λO w vs hO hG hGO hsz hrep=>?_⟩;refine callsIn_wide.1 (callsIn_of_wp_marks (F:=Fence.wide) (n:=3) hf hb trivial ?_ rfl)
 let E:Env:=⟨(w.heap.size<= ·),O,w,fn.ntmps,λ_=>none,[]⟩
 have hs:Sim cx E ⟨gH 0 args,[]⟩ {tmps:=vs++Array.replicate (fn.ntmps-vs.size) Go.undef,defers:=[]} w:=by
  refine⟨λ_=> .nilFunc,⟨rfl,rfl,rfl,Nat.le_refl _,λ_ _=>rfl⟩,λb hb=>hb,λb hb=>Nat.not_le.2 (hO b hb),rfl,?_,λt=>?_,⟨λs b hs=>by simp[find]at hs,λs s' b hs=>by simp[live,find]at hs⟩,hG,λg cells hg=>⟨Nat.not_le.2 (hG g cells hg).1,hGO g cells hg⟩,λq0 B hB=>by cases hB⟩
  . show(vs++Array.replicate (fn.ntmps-vs.size) Go.undef).size=fn.ntmps
    simp;omega
  . show au w O (live []) _ (St.get ⟨gH 0 args,[]⟩ t) _
    simp only[St.get,mX,Nat.zero_le,if_true,Nat.sub_zero];cases ht:args[t]? with
    |none=>exact .undef _
    |some x =>
     have hlt:t<vs.size:=by rw[hsz];exact(ar.1 ht).1
     have:(vs++Array.replicate (fn.ntmps-vs.size) Go.undef).getD t Go.undef=vs.getD t Go.undef:=by simp[Array.getElem?_append,hlt]
     rw[this];have e:live ([]:List (Nat×Blk))=λ_=>False:=funext λs=>by simp[live,find]
     rw[e];exact hrep t x ht
 refine wpIn_wide.2 (MS hT hm c (E:=E) rfl rfl h hs λE1 e st' a' w' hx hq hs' =>?_);have key:∀i,rC cx fn.results.toList (res i) (bs i) st' ->LeavesInM Fence.wide 3 cx.P fn a'.tmps (λe w' => ∃i u τ,e= .returned u/\Below w.heap.size w w' /\Holds w' (w.heap.size<= ·) O (bs i) τ/\au w' O (live (bs i)) τ (res i) u) a'.defers .returning w' :=by
  intro i hq;obtain⟨σ,hs1⟩:=hs';obtain⟨ms,k1,k2,k3⟩:=hx.marks w.heap.size (Nat.le_refl _) ⟨[],rfl,List.nodup_nil,λb hb=>by cases hb⟩;rw[hs1.defers,k1];have fr:∀b,¬E.F b->w'.heap[b]? =w.heap[b]? :=λb hb=>(hs1.frame.block b λe=>hb (hx.F b e)).trans (hx.frame.block b hb)
  have bel:Below w.heap.size w w' :=⟨hs1.frame.os.trans hx.frame.os,hs1.frame.tape.trans hx.frame.tape,hs1.frame.output.trans hx.frame.output,Nat.le_trans hx.frame.size hs1.frame.size,λk hk=>fr k (Nat.not_le.2 hk)⟩
  refine uV (n0:=w.heap.size) (w0:=w) ms (E:=E1) ⟨σ,hs1⟩ k2 (λb hb=>?_) bel λE2 w2 hs2 hF2 hO2 bel2=>?_
  . obtain⟨p1,p2,p3,p4⟩:=k3 b hb;exact⟨p1,(hs1.frame.block b p3).trans p2,p3,p4⟩
  . obtain⟨u,hu,τ,hh,hr⟩:=Hn hT (fn:=fn) hq hs2;have less:aQ w2 w2 (Own E2.O (live (bs i)) τ) (Own O (live (bs i)) τ):=aQ.less λb hb=>by
     rcases hb with hb|hb
     . exact .inl (hO2 b (hx.O b hb))
     . exact .inr hb
    refine⟨u,hu,i,u,τ,rfl,bel2,⟨λs b hb=>?_,hh.inj⟩,hr.mono less λs hs=>⟨hs,rfl⟩⟩;have hl:live (bs i) s:=aC.2 ⟨b,hb⟩;exact(cg.mono less (λs hs=>⟨hs,rfl⟩) hl (λ_ _=>rfl) (hh.blk s b hb)).reF λg hg=>hx.F g (hF2 g (hh.home hl hg).1)
 obtain⟨i,hq⟩:=hq;cases e with
 |normal=>exact key i hq
 |ret=>exact key i hq
 |exit id=>exact hq.elim
end NQ
namespace NQ
open Go Go.RowKit
def nm(o:Nat)(l:List Nat)(s:Nat):Nat:=match bG s l with|true=>s+o|false=>s
def mn(o:Nat)(q:Nat):Nat:=match Nat.blt q o with|true=>q|false=>q-o
def EF(o:Nat)(l:List Nat):AV->AV
 | .ptr s off=> .ptr (nm o l s) off
 | .own s=> .own (nm o l s)
 | .rptr s a b c=> .rptr (nm o l s) a b c
 | .omap s=> .omap (nm o l s)
 | .d y=> .d y
 | .nil z=> .nil z
 | .maybe p=> .maybe p
 |_=> .undef
def xT(o:Nat)(l:List Nat):AV->AV
 | .agg cs=> .agg (cs.map (EF o l))
 | .fn f a b=> .fn f (a.map (EF o l)) (b.map (EF o l))
 |v=>EF o l v
def ren(o:Nat)(l:List Nat):AV->AV
 | .tuple vs=> .tuple (vs.map (xT o l))
 |v=>xT o l v
def vh(o:Nat)(l:List Nat):Blk->Blk
 | .box cells=> .box (cells.map (xT o l))
 | .arow e z rows=> .arow e z (rows.map λr=>r.map (xT o l))
 |b=>b
def St.pS(st:St)(o:Nat)(l:List Nat):St:=⟨st.slots.map λp=>(p.1,NQ.ren o l p.2),st.heap.map λp=>(nm o l p.1,vh o l p.2)⟩
theorem Jn{o:Nat}{l:List Nat}{s:Nat}(h:s<o):mn o (nm o l s)=s:=by
 unfold nm mn;cases hm:bG s l with
 |true =>
  have:Nat.blt (s+o) o=false:=by
   rw[<- Bool.not_eq_true];intro e;have:s+o+1<=o:=ag e;omega
  simp only[this];exact Nat.add_sub_cancel ..
 |false =>
  have:Nat.blt s o=true:=Nat.ble_eq_true_of_le h;simp only[this]
theorem Dx{o:Nat}{l:List Nat}:∀{hp:List (Nat×Blk)},(∀p∈hp,p.1<o)->(∀(s:Nat) (b:Blk),find hp s=some b->find (hp.map λp=>(nm o l p.1,vh o l p.2)) (nm o l s)=some (vh o l b)) /\
 (∀(q:Nat) (b' :Blk),find (hp.map λp=>(nm o l p.1,vh o l p.2)) q=some b' -> ∃s b,find hp s=some b/\q=nm o l s/\b' =vh o l b)
 |[],_=>⟨λ_ _ h=>(by cases h),λ_ _ h=>(by cases h)⟩
 |(k,x)::t,hall=>by
  obtain⟨i1,i2⟩:=Dx (o:=o) (l:=l) (hp:=t) λp hp=>hall p (aK _ hp)
  have hk:k<o:=hall (k,x) (List.mem_cons_self ..);have hlt:∀{hp:List (Nat×Blk)} {s b},find hp s=some b->(∀p∈hp,p.1<o)->s<o:=by
   intro hp;induction hp with
   |nil=>intro s b h;cases h
   |cons p r ih =>
    intro s b h ha;by_cases e:p.1=s
    . exact e ▸ ha p (List.mem_cons_self ..)
    . rw[show p=(p.1,p.2)from rfl,aS _ _ e]at h;exact ih h λp hp=>ha p (aK _ hp)
  refine⟨λs b h=>?_,λq b' h=>?_⟩
  . by_cases e:k=s
    . subst e;rw[aJ]at h;cases h;exact aJ ..
    . have hs:=hlt h hall;rw[aS _ _ e]at h;show find ((nm o l k,vh o l x)::_) (nm o l s)=_
      rw[aS _ _ λe2=>e (by rw[<- Jn (o:=o) (l:=l) hk, <- Jn (o:=o) (l:=l) hs,e2])];exact i1 s b h
  . have h:find ((nm o l k,vh o l x)::(t.map λp=>(nm o l p.1,vh o l p.2))) q=some b' :=h;by_cases e:nm o l k=q
    . subst e;rw[aJ]at h;cases h;exact⟨k,x,aJ .., rfl,rfl⟩
    . rw[aS _ _ e]at h;obtain⟨s,b,h1,h2,h3⟩:=i2 q b' h;refine⟨s,b,?_,h2,h3⟩;rw[aS _ _ λe2=>e (by rw[e2,h2])];exact h1
section
variable {w:World} {O L L' :Nat->Prop} {σ σ' :Nat->Value} {o:Nat} {l:List Nat}
theorem tg(hk:aQ w w (Own O L σ) (Own O L' σ'))(hL:∀s,L s->L' (nm o l s)/\σ' (nm o l s)=σ s){c:AV}{v:Value}(h:au w O L σ c v):au w O L' σ' (EF o l c) v:=by
 cases h with
 |undef=>exact .undef _
 |d y v h=>exact .d _ _ (h.mono hk)
 |nil=>exact .nil _
 |maybe p b h=>exact .maybe p b h
 |ptr s off b hl h=>exact .ptr _ _ b (hL s hl).1 ((hL s hl).2.trans h)
 |own s hl=>rw[<- (hL s hl).2];exact .own _ (hL s hl).1
 |rptr s size i off b n cap o0 hl h=>exact .rptr _ _ _ _ b n cap o0 (hL s hl).1 ((hL s hl).2.trans h)
 |omap s hl=>rw[<- (hL s hl).2];exact .omap _ (hL s hl).1
 |agg=>exact .undef _
 |tuple=>exact .undef _
 |fn=>exact .undef _
theorem th(hk:aQ w w (Own O L σ) (Own O L' σ'))(hL:∀s,L s->L' (nm o l s)/\σ' (nm o l s)=σ s){c:AV}{v:Value}(h:au w O L σ c v):au w O L' σ' (xT o l c) v:=by
 cases c with
 |agg cs=>cases h with|agg _ vs hl hh=>exact .agg _ _ (by simpa using hl) (gC (λc v=>tg hk hL) hh)
 |fn f a b=>cases h with|fn _ _ _ xs vs hxs hl h1 h2=>exact .fn _ _ _ _ _ (by simpa using hxs) (by simpa using hl) (gC (λc v=>tg hk hL) h1) (gC (λc v=>tg hk hL) h2)
 |_=>exact tg hk hL h
theorem RA(hk:aQ w w (Own O L σ) (Own O L' σ'))(hL:∀s,L s->L' (nm o l s)/\σ' (nm o l s)=σ s){c:AV}{v:Value}(h:au w O L σ c v):au w O L' σ' (ren o l c) v:=by
 cases c with
 |tuple vs=>cases h with|tuple _ us hl hh=>exact .tuple _ _ (by simpa using hl) (gC (λc v=>th hk hL) hh)
 |_=>exact th hk hL h
theorem EG{c:AV}(h:c.one=true\/c= .undef):(xT o l c).one=true\/xT o l c= .undef:=by
 rcases h with h|rfl
 . cases c <;> first|exact .inl h|exact .inl rfl|cases h
 . exact .inr rfl
end
theorem gy.pS{cx:Cx}{st:St}(o:Nat)(l:List Nat)(hlt:st.heap.all (λp=>Nat.blt p.1 o)=true):gy cx st (st.pS o l):=by
 rintro E a w h0 ⟨σ,hs⟩;have hlt' :∀p∈st.heap,p.1<o:=λp hp=>ag (av.1 hlt p hp)
 obtain⟨f1,f2⟩:=Dx (o:=o) (l:=l) hlt';have hls:∀s,live st.heap s->s<o:=λs hl=>by
  obtain⟨b,hb⟩:=aC.1 hl
  revert hb hlt'
  clear f1 f2 hl hlt hs;generalize st.heap=hp;induction hp with
  |nil=>intro _ hb;cases hb
  |cons p r ih =>
   intro ha hb;by_cases e:p.1=s
   . exact e ▸ ha p (List.mem_cons_self ..)
   . rw[show p=(p.1,p.2)from rfl,aS _ _ e]at hb;exact ih (λp hp=>ha p (aK _ hp)) hb
 have hL:∀s,live st.heap s->live (st.pS o l).heap (nm o l s)/\(λq=>σ (mn o q)) (nm o l s)=σ s:=λs hl=>by
  obtain⟨b,hb⟩:=aC.1 hl;exact⟨aC.2 ⟨_,f1 s b hb⟩,by show σ (mn o (nm o l s))=σ s;rw[Jn (hls s hl)]⟩
 have hL' :∀q,live (st.pS o l).heap q-> ∃s,live st.heap s/\q=nm o l s:=λq hq=>by
  obtain⟨b,hb⟩:=aC.1 hq;obtain⟨s,b0,h1,h2,_⟩:=f2 q b hb;exact⟨s,aC.2 ⟨b0,h1⟩,h2⟩
 have hk:aQ w w (Own E.O (live st.heap) σ) (Own E.O (live (st.pS o l).heap) λq=>σ (mn o q)):=aQ.less λb hb=>by
  rcases hb with hb|⟨q,hq,e⟩
  . exact .inl hb
  . obtain⟨s,h1,rfl⟩:=hL' q hq;exact .inr ⟨s,h1,by rw[<- (hL s h1).2];exact e⟩
 refine⟨λq=>σ (mn o q),hs.frame,hs.new,hs.apart,hs.defers,hs.nt,λt=>?_,⟨λq b hb=>?_,λq q' b lq lq' =>?_⟩,hs.glob,hs.globF,λq0 B hB=>by rw[h0]at hB;cases hB⟩
 . have hg:(st.pS o l).get t=NQ.ren o l (st.get t):=by
    simp only[St.get,St.pS,jZ];cases find st.slots t <;> rfl
   rw[hg];exact RA hk hL (hs.slots t)
 . obtain⟨s,b0,h1,rfl,rfl⟩:=f2 q b hb;have hl:live st.heap s:=aC.2 ⟨b0,h1⟩;have hold:=hs.holds.blk s b0 h1;have hσ:σ (mn o (nm o l s))=σ s:=(hL s hl).2;cases b0 with
   |box cells =>
    obtain⟨g,cur,t,p1,p2,p3,p4,p5⟩:=hold;refine⟨g,cur,t,hσ.trans p1,p2,p3,by simpa using p4,λj c hj=>?_⟩;rw[aM]at hj;cases hc:cells[j]? with
    |none=>rw[hc]at hj;cases hj
    |some y =>
     rw[hc]at hj;cases hj;exact⟨EG (p5 j y hc).1,th hk hL (p5 j y hc).2⟩
   |row e size rows fl =>
    obtain⟨xs,p1,p2,p3,p4,p5⟩:=hold;refine⟨xs,(by show w.ownsRow 0 e size (σ (mn o (nm o l s))) rows.length xs;rw[hσ];exact p1),λb hb=>p2 b (by rw[<- hσ];exact hb),⟨p3.1,λh=>(by show ∃a,σ (mn o (nm o l s))=_;rw[hσ];exact p3.2 h)⟩,p4,λi r j d hi hj=>?_⟩;obtain⟨u,u1,u2⟩:=p5 i r j d hi hj;exact⟨u,u1,u2.mono hk⟩
   |smap m =>
    obtain⟨g,es,clock,p1,p2,p3,p4,p5⟩:=hold;refine⟨g,es,clock,hσ.trans p1,p2,p3,p4,λj k v hj=>?_⟩;obtain⟨e,e1,e2,e3⟩:=p5 j k v hj;exact⟨e,e1,e2.mono hk,e3.mono hk⟩
   |kmap m =>
    obtain⟨g,es,clock,p1,p2,p3,p4⟩:=hold;exact⟨g,es,clock,hσ.trans p1,p2,p3,p4.mono λ_ _ h=>h.mono hk⟩
   |arow e size rows =>
    obtain⟨g,cur,t,p1,p2,p3,p4,p5⟩:=hold;refine⟨g,cur,t,by simpa using hσ.trans p1,p2,p3,λr hr=>?_,λi r j c hi hj=>?_⟩
    . obtain⟨r0,h0,rfl⟩:=List.mem_map.1 hr;rw[ak];exact p4 r0 h0
    . obtain⟨r0,c0,q1,q2,rfl⟩:=xU hi hj;obtain⟨⟨q3,q4⟩,q5⟩:=p5 i r0 j c0 q1 q2;exact⟨⟨EG q3,q4⟩,th hk hL q5⟩
   |tail e size rows =>
    show gQ w _ e size rows (σ (mn o (nm o l s)))/\_
    rw[hσ];exact⟨hold.1.mono (λ_ _=>rfl) λ_ _ hr=>hr.mono hk,λb hb=>hold.2 b (by rw[<- hσ];exact hb)⟩
   |iter left cur =>
    show nN w _ left cur (σ (mn o (nm o l s)))/\_
    rw[hσ];exact⟨hold.1.mono (λ_ _=>rfl) hk,λb hb=>hold.2 b (by rw[<- hσ];exact hb)⟩
 . intro e e';obtain⟨s,h1,rfl⟩:=hL' q lq;obtain⟨s',h1',rfl⟩:=hL' q' lq';rw[hs.holds.inj s s' b h1 h1' (by rw[<- (hL s h1).2];exact e) (by rw[<- (hL s' h1').2];exact e')]
@[reducible] def St.ren (st:St) (l:List Nat):St:=st.pS 100000 l
theorem gy.ren{cx:Cx}{st:St}(l:List Nat)(hlt:st.heap.all (λp=>Nat.blt p.1 100000)=true):gy cx st (st.ren l):=gy.pS 100000 l hlt
def zN(t:Nat)(y:Value)(Q:Exit->Act->World->Prop):Exit->Act->World->Prop:=λe a w=>Q e a w/\(e= .normal->a.tmps.getD t Go.undef=y)
theorem xC{t:Nat}{y:Value}{Q:Exit->Act->World->Prop}(h:LetsOut Q):LetsOut (zN t y Q):=by
 obtain⟨a,w,h⟩:=h;exact⟨a,w,h,λe=>by cases e⟩
theorem dQ{a:Act}{d:Option Nat}{v:Value}{t:Nat}(h:d≠some t):(a.put d v).tmps.getD t Go.undef=a.tmps.getD t Go.undef:=by
 cases d with
 |none=>rfl
 |some d =>
  have:d≠t:=λe=>h (by rw[e])
  simp[Act.put,bd,Array.getElem?_setIfInBounds,this]
theorem Hi{P:Program}{o:Oper}{a:Act}{w:World}{next:Act->World->Prop}{Q:Exit->Act->World->Prop}{t:Nat}{y:Value}(hd:o.dst≠some t)(hy:a.tmps.getD t Go.undef=y)(h:o.wp P a w next Q) :
 o.wp P a w (λa' w' =>next a' w' /\a'.tmps.getD t Go.undef=y) (zN t y Q):=by
 unfold Oper.wp at *
 generalize (execOp a.eval o).run P w=r at *
 cases r with
 |ok n w' =>
  cases n with
  |value v=>exact⟨h,(dQ hd).trans hy⟩
  |skip=>exact⟨h,(dQ hd).trans hy⟩
  |defer d=>exact⟨h,(dQ (a:={a with defers:=d::a.defers}) hd).trans hy⟩
  |enter f args =>
   refine Calls.mono h λe w2 h=>?_
   cases e with
   |returned v=>exact⟨h,(dQ hd).trans hy⟩
   |panicked c=>exact⟨h,λe=>by cases e⟩
   |outgrown=>exact xC h
  |row row args=>exact λc cs=>let ⟨v,w2,r,s⟩:=h c cs;⟨v,w2,⟨r,(dQ hd).trans hy⟩,s⟩
  |_=>exact h.elim
 |halt s w' =>
  cases s with
  |panic v=>exact⟨h,λe=>by cases e⟩
  |_=>exact h.elim
theorem qp{P:Program}{ops:Array Oper}{Q:Exit->Act->World->Prop}{t:Nat}{y:Value}:∀(os:List Oper) (a:Act) (w:World),(∀o∈os,o.dst≠some t)->a.tmps.getD t Go.undef=y->wpList P ops Q os a w->wpList P ops (zN t y Q) os a w
 |[],_,_,_,hy,h=>⟨h,λ_=>hy⟩
 |o::rest,a,w,hd,hy,h=>by
  unfold wpList at h ⊢;split
  . rename_i hw;rw[if_pos hw]at h;rcases h with h|⟨h1,h2⟩
    . exact .inl (Oper.wp_mono (λa w h=>qp rest a w (λx hx=>hd x (aK _ hx)) h.2 h.1) (Hi (hd o (List.mem_cons_self ..)) hy h))
    . exact .inr ⟨h1,xC h2⟩
  . rename_i hw;rw[if_neg hw]at h;exact qp rest _ _ (λx hx=>hd x (aK _ hx)) ((dQ (hd o (List.mem_cons_self ..))).trans hy) h
theorem mV{P:Program}{md:Region.Mode}{ops:Array Oper}{Q:Exit->Act->World->Prop}{t:Nat}{y:Value}(hd:∀o∈ops.toList,o.dst≠some t):∀(fuel:Nat) (listed:Array Bool) (a:Act) (w:World),a.tmps.getD t Go.undef=y->wpAny P md ops Q fuel listed a w->wpAny P md ops (zN t y Q) fuel listed a w
 |0,_,_,_,hy,h=>⟨h.1,h.2,λ_=>hy⟩
 |fuel+1,listed,a,w,hy,h=>by
  refine⟨λe=>⟨h.1 e,λ_=>hy⟩,λi hi=>?_⟩;have h2:=h.2 i hi;unfold wpOp at h2 ⊢;split
  . rename_i e;rw[e]at h2;exact mV hd fuel _ _ _ hy h2
  . rename_i o e;rw[e]at h2;simp only at h2;have hdo:o.dst≠some t:=hd o (ao (by rw[aX];exact e));split
    . rename_i hw;rw[if_pos hw]at h2;rcases h2 with h2|⟨h1,h2⟩
      . exact .inl (Oper.wp_mono (λa w h=>mV hd fuel _ a w h.2 h.1) (Hi hdo hy h2))
      . exact .inr ⟨h1,xC h2⟩
    . rename_i hw;rw[if_neg hw]at h2;exact mV hd fuel _ _ _ ((dQ hdo).trans hy) h2
structure zP(cx:Cx)(O:Nat->Prop)(n0:Nat)(G I:Nat->Prop)(W:World):Prop where
 g:∀b,G b->b<W.heap.size/\ ¬I b
 o:∀b,O b->b<n0
 i:∀b,I b->n0<=b/\b<W.heap.size
 n:n0<=W.heap.size
 glob:gu cx W
 gl:∀x cells,cx.gl x=some cells->x<n0/\ ¬O x/\ ¬G x
def Ei(nt:Nat)(O G I:Nat->Prop)(W:World):Env:=⟨λb=>I b\/W.heap.size<=b,λb=>O b\/G b,W,nt,λ_=>none,[]⟩
structure qg(cx:Cx)(S:Src)(O:Nat->Prop)(l:Nat)(J Jx:S.π->(Nat->Prop)->(Nat->Prop)->World->Prop):Prop where
 j:∀k G I I' A B,J k G I A->(∀b,I' b->(I b\/A.heap.size<=b)/\b<B.heap.size)->bC (λb=>I b\/A.heap.size<=b) A B->J k G I' B
 jx:∀k G I I' A B,Jx k G I A->(∀b,I' b->(I b\/A.heap.size<=b)/\b<B.heap.size)->bC (λb=>I b\/A.heap.size<=b) A B->Jx k G I' B
 y : ∀ k x k' vals G I W1, S.give k x k' -> J k G I W1 -> vals.size = x.length -> (∀ (j : Nat) c, x[j]? = some c -> Rep W1 (fun b => (O b \/ G b) \/ I b) c (vals.getD j Go.undef)) ->
     YieldAt Fence.wide 1 cx.P l vals W1 λe W' => ∃G',(∀b,G' b->(G b\/W1.heap.size<=b)/\b<W'.heap.size)/\bC (λb=>G b\/W1.heap.size<=b) W1 W' /\
      ((e= .returned (.bool true)/\J k' G' I W')\/(e= .returned (.bool false)/\Jx k' G' I W'))
def AtK{π:Type}(J Jx:π->(Nat->Prop)->(Nat->Prop)->World->Prop)(p:π×Bool)(G I:Nat->Prop)(W:World):Prop:=match p.2 with|true=>J p.1 G I W|false=>Jx p.1 G I W
def mS{π:Type}(cx:Cx)(nt:Nat)(O:Nat->Prop)(n0:Nat)(J Jx:π->(Nat->Prop)->(Nat->Prop)->World->Prop)(p:π×Bool)(st:St)(a:Act)(w:World):Prop :=
 ∃G I W,zP cx O n0 G I W/\Sim cx (Ei nt O G I W) st a w/\AtK J Jx p G I W
variable {cx:Cx} {nt:Nat} {O:Nat->Prop} {n0 l:Nat} {S:Src} {J Jx:S.π->(Nat->Prop)->(Nat->Prop)->World->Prop}
theorem qg.settle(hT:qg cx S O l J Jx){p:S.π×Bool}{st:St}{σ:Nat->Value}{a:Act}{G I:Nat->Prop}{W w:World}(hS:zP cx O n0 G I W)(hs:aU cx (Ei nt O G I W) st σ a w)(hA:AtK J Jx p G I W) :
 ∃I' :Nat->Prop,(I' =λb=> ∃s,live st.heap s/\home (σ s)=some b)/\zP cx O n0 G I' w/\aU cx (Ei nt O G I' w) st σ a w/\AtK J Jx p G I' w:=by
 have hfr:bC (λb=>I b\/W.heap.size<=b) W w:=hs.frame;have hsz:W.heap.size<=w.heap.size:=hfr.size;have hin:∀{x b},live st.heap x->home (σ x)=some b->(I b\/W.heap.size<=b)/\b<w.heap.size:=λhl e=>hs.holds.home hl e
 have hn:∀b,(I b\/W.heap.size<=b)->n0<=b:=λb hb=>by
  rcases hb with hb|hb
  . exact(hS.i b hb).1
  . exact Nat.le_trans hS.n hb
 obtain⟨I',hI⟩:∃I' :Nat->Prop,I' =λb=> ∃s,live st.heap s/\home (σ s)=some b:=⟨_,rfl⟩
 have hII:∀b,I' b->(I b\/W.heap.size<=b)/\b<w.heap.size:=λb hb=>by
  rw[hI]at hb;obtain⟨x,hl,e⟩:=hb;exact hin hl e
 have hS2 : zP cx O n0 G I' w := ⟨fun b hb => ⟨Nat.lt_of_lt_of_le (hS.g b hb).1 hsz, fun e => by
     rcases (hII b e).1 with e|e
     . exact(hS.g b hb).2 e
     . have:=(hS.g b hb).1;omega⟩,hS.o,λb hb=>⟨hn b (hII b hb).1,(hII b hb).2⟩,Nat.le_trans hS.n hsz,hs.lF,hS.gl⟩
 refine⟨I',hI,hS2,?_,?_⟩
 . refine hs.CE (E' :=Ei nt O G I' w) (aQ.refl _ _) (λs b hl e=>⟨.inl (by rw[hI];exact⟨s,hl,e⟩),rfl⟩) (bC.refl _ _) (λb hb=> .inr hb) (λb hb hf=>?_) hs.defers hs.nt hs.lF (λx cells hx=>⟨λhf=>?_,λho=>?_⟩) (λq0 B hB=>by cases hB)
   . rcases hb with hb|hb
     . have h1:=hS.o b hb;rcases hf with hf|hf
       . have:=(hS2.i b hf).1;omega
       . have h2:w.heap.size<=b:=hf;have:=hS2.n;omega
     . rcases hf with hf|hf
       . exact(hS2.g b hb).2 hf
       . have h2:w.heap.size<=b:=hf;have:=(hS2.g b hb).1;omega
   . have h1:=(hS.gl x cells hx).1;rcases hf with hf|hf
     . have:=(hS2.i x hf).1;omega
     . have h2:w.heap.size<=x:=hf;have:=hS2.n;omega
   . rcases ho with ho|ho
     . exact(hS.gl x cells hx).2.1 ho
     . exact(hS.gl x cells hx).2.2 ho
 . unfold AtK at hA ⊢;cases hp:p.2 with
   |true=>rw[hp]at hA;exact hT.j _ _ _ _ _ _ hA hII hfr
   |false=>rw[hp]at hA;exact hT.jx _ _ _ _ _ _ hA hII hfr
theorem qg.yield(hT:qg cx S O l J Jx){k k' :S.π}{st:St}{a:Act}{w:World}{o:Oper}{c:Call}{t:Operand}{ds:List D}(h:mS cx nt O n0 J Jx (k,true) st a w)(ho:o.op= .call c)(hc:c.callee= .value t)
 (ht:a.eval t= .func (.yield l) #[] #[]) (hx:S.give k ds k') (hds:bH fW (bP cx st c.args.toList c.argTypes.toList)=some ds) (hd:∀e,o.dst=some e->e<nt) {next:Act->World->Prop} {Q:Exit->Act->World->Prop}
 (hN:∀b w',mS cx nt O n0 J Jx (k',b) (st.put o.dst (.d (.bool b)) []) (a.put o.dst (.bool b)) w' ->next (a.put o.dst (.bool b)) w'):o.wpIn Fence.wide 2 cx.P a w next Q:=by
 obtain⟨G,I,W,hS,⟨σ,hs⟩,hA⟩:=h;obtain⟨I1,hI1,hS1,hs1,hA1⟩:=hT.settle hS hs hA;obtain⟨l1,l2⟩:=gI (St.le.refl st) hs1 c.args.toList c.argTypes.toList;obtain⟨k1,k2⟩:=bI hds;have hown:∀b,Own (Ei nt O G I1 w).O (live st.heap) σ b->(O b\/G b)\/I1 b:=λb hb=>by
  rcases hb with hb|hb
  . exact .inl hb
  . exact .inr (by rw[hI1];exact hb)
 have hy:=hT.y k ds k' (c.args.map a.eval) G I1 w hx hA1 (by simp[k1,l1]) (λj d hj=>by
  obtain⟨cc,hcc,hfa⟩:=k2 j d hj;obtain⟨x,hx,hr⟩:=l2 j cc hcc;have:(c.args.map a.eval).getD j Go.undef=a.eval x:=by rw[aX]at hx;simp[hx]
  rw[this];refine(ix hfa hr).mono ⟨Nat.le_refl _,λ_ _ _=>rfl,λb hb _ hb' =>hb ?_⟩;rcases hb' with hb' |hb'
  . exact .inl hb'
  . exact .inr (by rw[hI1]at hb';exact hb'))
 obtain⟨fn,tmps,assign,body,hrun0,hR⟩:=hy;refine⟨λ_ _=>trivial,?_⟩;rw[Oper.semAt_eq _ _ _ (λc' e=>by rw[ho]at e;cases e)];have hrun:(execOp a.eval o).run cx.P w= .ok (.round l fn tmps assign body) w:=by
  simp[execOp,ho,resolve,hc,ht,Deferred.ofValue,invoke,hrun0]
 rw[hrun];refine⟨λh=>by simp[Fence.wide]at h,hR.mono λe w' hp=>?_⟩;obtain⟨G',g1,g2,g3⟩:=hp;have fin:∀b:Bool,AtK J Jx (k',b) G' I1 w' ->next (a.put o.dst (.bool b)) w' :=λb hA2=>hN b w' (by
  have hsz:w.heap.size<=w'.heap.size:=g2.size
  have hS2 : zP cx O n0 G' I1 w' := ⟨fun x hx => ⟨(g1 x hx).2, fun e => by
      rcases (g1 x hx).1 with h|h
      . exact(hS1.g x h).2 e
      . have:=(hS1.i x e).2;omega⟩,hS1.o,λx hx=>⟨(hS1.i x hx).1,Nat.lt_of_lt_of_le (hS1.i x hx).2 hsz⟩,Nat.le_trans hS1.n hsz,hS1.glob.DC g2 (λx cells hx hf=>by
        rcases hf with hf|hf
        . exact(hS1.gl x cells hx).2.2 hf
        . have:=(hS1.gl x cells hx).1;have:=hS1.n;omega),λx cells hx=>⟨(hS1.gl x cells hx).1,(hS1.gl x cells hx).2.1,λe=>by
        rcases (g1 x e).1 with h|h
        . exact(hS1.gl x cells hx).2.2 h
        . have:=(hS1.gl x cells hx).1;have:=hS1.n;omega⟩⟩
  refine⟨G',I1,w',hS2,⟨σ,?_⟩,hA2⟩;have hs2:aU cx (Ei nt O G' I1 w') st σ a w' :=by
   refine hs1.CE (E' :=Ei nt O G' I1 w') ⟨hsz,λb hb hlt=>g2.block b λhf=>?_,λb hb hlt hb' =>hb ?_⟩ (λs b hl e=>?_) (bC.refl _ _) (λb hb=> .inr hb) (λb hb hf=>?_) hs1.defers hs1.nt hS2.glob (λx cells hx=>⟨λhf=>?_,λho=>?_⟩) (λq0 B hB=>by cases hB)
   . rcases hf with hf|hf
     . exact hb (.inl (.inr hf))
     . omega
   . rcases hb' with (hb' |hb')|hb'
     . exact .inl (.inl hb')
     . rcases (g1 b hb').1 with h|h
       . exact .inl (.inr h)
       . omega
     . exact .inr hb'
   . have hi:I1 b:=by rw[hI1];exact⟨s,hl,e⟩
     refine⟨.inl hi,g2.block b λhf=>?_⟩;rcases hf with hf|hf
     . exact(hS1.g b hf).2 hi
     . have:=(hS1.i b hi).2;omega
   . rcases hb with hb|hb
     . have h1:=hS.o b hb;rcases hf with hf|hf
       . have:=(hS2.i b hf).1;omega
       . have h2:w'.heap.size<=b:=hf;have:=hS2.n;omega
     . rcases hf with hf|hf
       . exact(hS2.g b hb).2 hf
       . have h2:w'.heap.size<=b:=hf;have:=(hS2.g b hb).1;omega
   . have h1:=(hS.gl x cells hx).1;rcases hf with hf|hf
     . have:=(hS2.i x hf).1;omega
     . have h2:w'.heap.size<=x:=hf;have:=hS2.n;omega
   . rcases ho with ho|ho
     . exact(hS2.gl x cells hx).2.1 ho
     . exact(hS2.gl x cells hx).2.2 ho
  exact hs2.put hd (.d _ _ (.bool b)))
 rcases g3 with ⟨rfl,hj⟩|⟨rfl,hj⟩
 . exact fin true hj
 . exact fin false hj
theorem MO{n:Nat}{P:Program}{o:Oper}{a:Act}{next:Act->World->Prop}{Q:Exit->Act->World->Prop}{r:Result Next}(h:o.upon P a next Q r):o.uponIn Fence.wide n P a next Q r:=by
 cases r with
 |ok x w' =>
  cases x with
  |value v=>exact h
  |skip=>exact h
  |defer d=>exact h
  |enter f args=>exact⟨λh=>by simp[Fence.wide]at h,callsIn_wide.2 h⟩
  |row row args=>exact⟨λh=>by simp[Fence.wide]at h,λc cs _=>let ⟨v,w',r,s⟩:=h c cs;⟨v,w',r,stepsIn_wide.2 s⟩⟩
  |_=>exact h.elim
 |halt s w' =>
  cases s with
  |panic v=>exact h
  |_=>exact h.elim
theorem Hj{n:Nat}{P:Program}{o:Oper}{a:Act}{w:World}{next:Act->World->Prop}{Q:Exit->Act->World->Prop}(hd:jK o=true)(h:o.wp P a w next Q):o.wpIn Fence.wide n P a w next Q:=by
 refine⟨λ_ _=>trivial,?_⟩;rw[Oper.semAt_eq _ _ _ (λc e=>by unfold jK at hd;rw[e]at hd;cases hd)];exact MO h
theorem SF{P:Program}{o:Oper}{a:Act}{w:World}{next:Act->World->Prop}{Q:Exit->Act->World->Prop}(h:o.wp P a w next Q) :
 o.wp P a w (λa' w' =>next a' w' /\ ∀t,o.dst≠some t->a'.tmps.getD t Go.undef=a.tmps.getD t Go.undef) Q:=by
 unfold Oper.wp at *
 generalize (execOp a.eval o).run P w=r at *
 cases r with
 |ok n w' =>
  cases n with
  |value v=>exact⟨h,λt hd=>dQ hd⟩
  |skip=>exact⟨h,λt hd=>dQ hd⟩
  |defer d=>exact⟨h,λt hd=>dQ (a:={a with defers:=d::a.defers}) hd⟩
  |enter f args =>
   refine Calls.mono h λe w2 h=>?_
   cases e with
   |returned v=>exact⟨h,λt hd=>dQ hd⟩
   |panicked c=>exact h
   |outgrown=>exact h
  |row row args=>exact λc cs=>let ⟨v,w2,r,s⟩:=h c cs;⟨v,w2,⟨r,λt hd=>dQ hd⟩,s⟩
  |_=>exact h.elim
 |halt s w' =>cases s <;> exact h
def Ej(ys:List Nat)(d:Option Nat):Bool:=match d with|some d=> !(bG d ys)|none=>true
theorem rU{ys:List Nat}{d:Option Nat}(h:Ej ys d=true):∀t∈ys,d≠some t:=λt ht e=>by
 subst e;simp only[Ej,Bool.not_eq_true']at h;rw[xL ht]at h;cases h
def Kb(cx:Cx)(nt:Nat)(S:Src)(ys:List Nat)(o:Oper)(p:S.π×Bool)(st:St)(K:List Nat->S.π×Bool->St->Prop):Prop :=
 match o.op with
 | .call c=>(match c.callee with
  | .value (.tmp t)=>(match bG t ys with
   |true=>(match dN nt o.dst,p.2 with
    |true,true=> ∃ds k',S.give p.1 ds k' /\bH fW (bP cx st c.args.toList c.argTypes.toList)=some ds/\ ∀b:Bool,K ys (k',b) (st.put o.dst (.d (.bool b)) [])
    |_,_=>False)
   |false=>fX cx nt false o st (K ys p))
  |_=>fX cx nt false o st (K ys p))
 | .move (.tmp t)=>(match bG t ys with
  |true=>(match dN nt o.dst,o.dst with
   |true,some d=>K (d::ys) p (st.put o.dst .undef [])
   |_,_=>False)
  |false=>fX cx nt false o st (K ys p))
 |_=>fX cx nt false o st (K ys p)
def JQ(cx:Cx)(nt:Nat)(S:Src)(ops:List Oper):List Oper->List Nat->(S.π×Bool->St->Prop)->S.π×Bool->St->Prop
 |[],ys,K,p,st=>K p st
 | o :: rest, ys, K, p, st => (jK o && Ej ys o.dst) = true /\ kZ ops st o (Kb cx nt S ys o p st fun ys p st => JQ cx nt S ops rest ys K p st)
     (match dN nt o.dst with|true=>JQ cx nt S ops rest ys K p (st.put o.dst (.tuple []) [])|false=>False)
variable {cx:Cx} {nt:Nat} {O:Nat->Prop} {n0 l:Nat} {S:Src} {J Jx:S.π->(Nat->Prop)->(Nat->Prop)->World->Prop} 
theorem Pz(hTy:bl cx)(hT:qg cx S O l J Jx){ys:List Nat}{o:Oper}{p:S.π×Bool}{st:St}{K:List Nat->S.π×Bool->St->Prop}{a:Act}{w:World}{next:Act->World->Prop}{Q:Exit->Act->World->Prop}(h:Kb cx nt S ys o p st K)(hs:mS cx nt O n0 J Jx p st a w)
 (hnd:jK o=true) (hof:Ej ys o.dst=true) (hy:∀t∈ys,a.tmps.getD t Go.undef= .func (.yield l) #[] #[])
 (hN:∀ys' p' st' a' w',K ys' p' st' ->mS cx nt O n0 J Jx p' st' a' w' ->(∀t∈ys',a'.tmps.getD t Go.undef= .func (.yield l) #[] #[])->(∀t∈ys,t∈ys')->next a' w'):o.wpIn Fence.wide 2 cx.P a w next Q:=by
 have plain:fX cx nt false o st (K ys p)->o.wpIn Fence.wide 2 cx.P a w next Q:=λh=>by
  obtain⟨st1,h1,h2⟩:=gk hTy h;obtain⟨G,I,W,hS,hs,hA⟩:=hs;refine Hj hnd (Oper.wp_mono (λa' w' hp=>?_) (SF (h1 (Ei nt O G I W) a w Q rfl hs)));exact hN ys p st1 a' w' h2 ⟨G,I,W,hS,hp.1,hA⟩ (λt ht=>(hp.2 t (rU hof t ht)).trans (hy t ht)) λt ht=>ht
 unfold Kb at h;split at h
 . rename_i c ho;split at h
   . rename_i t hc;split at h
     . rename_i hm;split at h
       . rename_i hd hp;obtain⟨ds,k',h1,h2,h3⟩:=h;obtain⟨k,g⟩:=p;obtain rfl:g=true:=hp;refine hT.yield hs ho hc (t:= .tmp t) (hy t (nh hm)) h1 h2 (cW hd) λb w' hs' =>?_
         exact hN ys _ _ _ w' (h3 b) hs' (λt ht=>(dQ (rU hof t ht)).trans (hy t ht)) λt ht=>ht
       . exact h.elim
     . exact plain h
   . exact plain h
 . rename_i t ho;split at h
   . rename_i hm;split at h
     . rename_i d hd hdd;obtain⟨G,I,W,hS,⟨σ,hs⟩,hA⟩:=hs;have hrun:(execOp a.eval o).run cx.P w= .ok (.value (a.eval (.tmp t))) w:=by simp[execOp,ho]
       refine Hj hnd ?_;unfold Oper.wp;rw[hrun];have hdn:∀e,o.dst=some e->e<nt:=cW hd;have hnt:a.tmps.size=nt:=hs.nt;refine hN (d::ys) p _ _ w h ⟨G,I,W,hS,⟨σ,hs.put hdn (.undef _)⟩,hA⟩ (λx hx=>?_) λx hx=>aK _ hx
       rcases List.mem_cons.1 hx with rfl|hx
       . have:=hdn x hdd;rw[hdd];have e:a.eval (.tmp t)= .func (.yield l) #[] #[]:=hy t (nh hm);rw[e];simp[Act.put,bd,Array.getElem?_setIfInBounds,hnt,this]
       . exact(dQ (rU hof x hx)).trans (hy x hx)
     . exact h.elim
   . exact plain h
 . exact plain h
theorem AF(hTy:bl cx)(hT:qg cx S O l J Jx){ops:Array Oper}{R:Exit->Act->World->Prop}{t0:Nat}:∀(os:List Oper) {ys:List Nat} {K:S.π×Bool->St->Prop} {p:S.π×Bool} {st:St} {a:Act} {w:World},JQ cx nt S ops.toList os ys K p st->mS cx nt O n0 J Jx p st a w ->
 (∀t∈ys,a.tmps.getD t Go.undef= .func (.yield l) #[] #[])->t0∈ys ->
 (∀p' st' a' w',K p' st' ->mS cx nt O n0 J Jx p' st' a' w' ->a'.tmps.getD t0 Go.undef= .func (.yield l) #[] #[]->R .normal a' w')->wpListIn Fence.wide 2 cx.P ops R os a w
 |[],ys,K,p,st,a,w,h,hs,hy,h0,hR=>hR p st a w h hs (hy t0 h0)
 |o::rest,ys,K,p,st,a,w,h,hs,hy,h0,hR=>by
  obtain⟨h1,h2⟩:=h;simp only[ay]at h1;unfold wpListIn;have hs' :=hs;obtain⟨G,I,W,hS,hs2,hA⟩:=hs';rcases ns h2 hs2 with ⟨hw,h⟩|⟨hw,h⟩
  . rw[if_pos hw];exact Pz hTy hT h hs h1.1 h1.2 hy λys' p' st' a' w' hk hs' hy' hsub=>AF hTy hT rest hk hs' hy' (hsub t0 h0) hR
  . rw[if_neg (by simp[hw])];refine⟨λ_ _=>trivial,?_⟩;split at h
    . rename_i hd;refine AF hTy hT rest h ⟨G,I,W,hS,jt (cW hd) hs2,hA⟩ (λt ht=>(dQ (rU h1.2 t ht)).trans (hy t ht)) h0 hR
    . exact h.elim
def SB(t0:Nat)(ops:List Oper):Bool:=ops.all λo=>Ej [t0] o.dst
def vci(cx:Cx)(nt:Nat)(fz:Nat->List Nat)(S:Src)(t0:Nat):Code->(Ex->S.π×Bool->St->Prop)->S.π×Bool->St->Prop
 | .skip,Q,p,st=>Q .normal p st
 | .label _,Q,p,st=>Q .normal p st
 | .seq a b,Q,p,st=>vci cx nt fz S t0 a (λe p s=>match e with| .normal=>vci cx nt fz S t0 b Q p s| .exit id=>Q (.exit id) p s| .ret=>Q .ret p s) p st
 | .cond c a b,Q,p,st=>(match st.ev cx c with
  | .d (.bool t)=>oG t (vci cx nt fz S t0 a Q p st) (vci cx nt fz S t0 b Q p st)
  | .maybe q=>(q=true->vci cx nt fz S t0 a Q p st)/\vci cx nt fz S t0 b Q p st
  |_=>False)
 | .block id body,Q,p,st=>vci cx nt fz S t0 body (λe p s=>match e with| .normal=>Q .normal p s| .exit j=>(match Nat.beq j id with|true=>Q .normal p s|false=>Q (.exit j) p s)| .ret=>Q .ret p s) p st
 | .loop body, Q, p, st => ∃ (α : Type) (f : α -> (S.π × Bool) × St) (I : α -> Prop) (μ : α -> Nat), (∃ x, I x /\ (f x).1 = p /\ aj cx st (f x).2) /\
     ∀x,I x->vci cx nt fz S t0 body (λe p s=>match e with| .normal=> ∃y,I y/\μ y<μ x/\(f y).1=p/\aj cx s (f y).2| .exit j=>Q (.exit j) p s| .ret=>Q .ret p s) (f x).1 (f x).2
 | .exit id,Q,p,st=>Q (.exit id) p st
 | .ret,Q,p,st=>Q .ret p st
 | .region id ops draw,Q,p,st=>(match bG 77777 (fz id)with
  |true=>(match draw with|false=>JQ cx nt S ops.toList ops.toList [t0] (Q .normal) p (st.bt (fz id))|true=>False)
  |false=>SB t0 ops.toList=true/\(match bG 55555 (fz id)with
   |true=> ∃st',aj cx st st' /\lh cx nt (fz id) ops draw (Q .normal p) st'
   |false=>lh cx nt (fz id) ops draw (Q .normal p) st))
 |_,_,_,_=>False
theorem LA{t:Nat}{y:Value}{R:Exit->Act->World->Prop}{Q:Exit->Act->World->Prop}(h:∀a w,Q .normal a w->a.tmps.getD t Go.undef=y->R .normal a w):∀e a w,zN t y (oN Q) e a w->R e a w:=λe a w hq=>by
 cases e <;> first|exact h a w hq.1 (hq.2 rfl)|exact hq.1.elim
theorem SX(hTy:bl cx)(hm:cx.P.follows .mixedOrders=true){fz:Nat->List Nat}(hT:qg cx S O l J Jx){t0:Nat}:∀(c:Code) {Q:Ex->S.π×Bool->St->Prop} {p:S.π×Bool} {st:St} {a:Act} {w:World} {R:Exit->Act->World->Prop},vci cx nt fz S t0 c Q p st->mS cx nt O n0 J Jx p st a w ->
 a.tmps.getD t0 Go.undef= .func (.yield l) #[] #[]->(∀e p' st' a' w',Q e p' st' ->mS cx nt O n0 J Jx p' st' a' w' ->R e.out a' w')->c.wpIn Fence.wide 2 cx.P R a w:=by
 have main:∀(c:Code) {Q:Ex->S.π×Bool->St->Prop} {p:S.π×Bool} {st:St} {a:Act} {w:World} {R:Exit->Act->World->Prop},vci cx nt fz S t0 c Q p st->mS cx nt O n0 J Jx p st a w ->
  a.tmps.getD t0 Go.undef= .func (.yield l) #[] #[]->(∀e p' st' a' w',Q e p' st' ->mS cx nt O n0 J Jx p' st' a' w' ->a'.tmps.getD t0 Go.undef= .func (.yield l) #[] #[]->R e.out a' w')->c.wpIn Fence.wide 2 cx.P R a w:=by
  intro c;induction c with
  |skip=>intro Q p st a w R h hs hy hR;exact wpIn_skip (hR .normal p st a w h hs hy)
  |label l=>intro Q p st a w R h hs hy hR;exact wpIn_label (hR .normal p st a w h hs hy)
  |exit id=>intro Q p st a w R h hs hy hR;exact wpIn_exit (hR (.exit id) p st a w h hs hy)
  |ret=>intro Q p st a w R h hs hy hR;exact wpIn_ret (hR .ret p st a w h hs hy)
  |seq x y ihx ihy =>
   intro Q p st a w R h hs hy hR;refine wpIn_seq (ihx (R:=Exit.then (y.wpIn Fence.wide 2 cx.P R) R) h hs hy λe p' st' a' w' hq hs' hy' =>?_);cases e with
   |normal=>exact ihy hq hs' hy' hR
   |exit id=>exact hR (.exit id) p' st' a' w' hq hs' hy'
   |ret=>exact hR .ret p' st' a' w' hq hs' hy'
  |cond c x y ihx ihy =>
   intro Q p st a w R h hs hy hR;have hs0:=hs;obtain⟨G,I,W,hS,⟨σ,hsa⟩,hA⟩:=hs0;simp only[vci]at h;split at h
   . rename_i t ht;have hr:a.eval c= .bool t:=by
      have:=hsa.ev (St.le.refl st) c;rw[ht]at this;exact this.bool
     cases t with
     |true=>exact wpIn_cond_true hr (ihx h hs hy hR)
     |false=>exact wpIn_cond_false hr (ihy h hs hy hR)
   . rename_i q ht;have hr:∃t,a.eval c= .bool t/\(t=true->q=true):=by
      have:=hsa.ev (St.le.refl st) c;rw[ht]at this;generalize a.eval c=u at this;cases this with|maybe _ b hb=>exact⟨b,rfl,hb⟩
     obtain⟨t,hr,hp⟩:=hr;cases t with
     |true=>exact wpIn_cond_true hr (ihx (h.1 (hp rfl)) hs hy hR)
     |false=>exact wpIn_cond_false hr (ihy h.2 hs hy hR)
   . exact h.elim
  |block id body ih =>
   intro Q p st a w R h hs hy hR;refine wpIn_block (ih (R:=Exit.inBlock id R) h hs hy λe p' st' a' w' hq hs' hy' =>?_);cases e with
   |normal=>exact hR .normal p' st' a' w' hq hs' hy'
   |exit j =>
    dsimp only at hq;split at hq
    . rename_i hj;have hj:=aP hj;simp only[Ex.out,Exit.inBlock,hj,if_true];exact hR .normal p' st' a' w' hq hs' hy'
    . rename_i hj;have hj:j≠id:=λe=>by subst e;simp at hj
      simp only[Ex.out,Exit.inBlock,hj,if_false];exact hR (.exit j) p' st' a' w' hq hs' hy'
   |ret=>exact hR .ret p' st' a' w' hq hs' hy'
  |loop body ih =>
   intro Q p st a w R h hs hy hR;obtain⟨α,f,I,μ,⟨x,hx,hp,hw⟩,hround⟩:=h;have weak:∀{p:S.π×Bool} {s s' :St} {a:Act} {w:World},mS cx nt O n0 J Jx p s a w->aj cx s s' ->mS cx nt O n0 J Jx p s' a w:=λ⟨G,I,W,h1,h2,h3⟩ hwk=>⟨G,I,W,h1,hwk _ _ _ h2,h3⟩
   refine wpIn_loop_ghost (λn a w=> ∃y,I y/\μ y=n/\mS cx nt O n0 J Jx (f y).1 (f y).2 a w/\a.tmps.getD t0 Go.undef= .func (.yield l) #[] #[]) (μ x) ⟨x,hx,rfl,by rw[hp];exact weak hs hw,hy⟩ ?_;rintro n a w ⟨y,hIy,rfl,hs',hy'⟩;refine ih (hround y hIy) hs' hy' λe p' st' a' w' hq hs'' hy'' =>?_
   cases e with
   |normal =>
    obtain⟨z,hz,hlt,hp',hw'⟩:=hq;exact⟨μ z,hlt,z,hz,rfl,by rw[hp'];exact weak hs'' hw',hy''⟩
   |exit j=>exact hR (.exit j) p' st' a' w' hq hs'' hy''
   |ret=>exact hR .ret p' st' a' w' hq hs'' hy''
  |region id ops draw =>
   intro Q p st a w R h hs hy hR;obtain⟨G,I,W,hS,hsa,hA⟩:=hs;simp only[vci]at h;split at h
   . split at h
     . exact wpIn_region_list (AF hTy hT ops.toList h ⟨G,I,W,hS,hsa.bt _,hA⟩ (λt ht=>by rcases List.mem_cons.1 ht with rfl|ht;exact hy;cases ht) (List.mem_cons_self ..) λp' st' a' w' hk hs' hy' =>hR .normal p' st' a' w' hk hs' hy')
     . exact h.elim
   . obtain⟨hoff,h⟩:=h;have hd:∀o∈ops.toList,o.dst≠some t0:=λo ho=>rU (av.1 hoff o ho) t0 (List.mem_cons_self ..)
     have fin:∀st' a' w',Q .normal p st' ->Sim cx (Ei nt O G I W) st' a' w' ->a'.tmps.getD t0 Go.undef= .func (.yield l) #[] #[]->R .normal a' w' :=λst' a' w' hq hs' hy' =>hR .normal p st' a' w' hq ⟨G,I,W,hS,hs',hA⟩ hy'
     have key:∀{st:St},lh cx nt (fz id) ops draw (Q .normal p) st->Sim cx (Ei nt O G I W) st a w->(Code.region id ops draw).wp cx.P R a w:=by
      intro st h hs
      let M:Exit->Act->World->Prop:=oN λe a' w' =>e= .normal/\ ∃st',Q .normal p st' /\Sim cx (Ei nt O G I W) st' a' w'
      refine wp_mono (Q:=zN t0 (.func (.yield l) #[] #[]) M) ?_ (LA λa' w' hq hy' =>by obtain⟨_,st',q1,q2⟩:=hq;exact fin st' a' w' q1 q2 hy');unfold lh at h;cases draw with
      |false =>
       simp only at h;cases hb:bG 88888 (fz id)with
       |true=>rw[hb]at h;exact wp_region_list (qp _ _ _ hd hy (iS hTy rfl ops.toList h (hs.bt _) λst' a' w' hk hs' =>⟨rfl,st',hk,hs'⟩))
       |false=>rw[hb]at h;exact wp_region_list (qp _ _ _ hd hy (rZ hTy rfl ops.toList h (hs.bt _) λst' a' w' hk hs' =>⟨rfl,st',hk,hs'⟩))
      |true =>
       simp only at h;cases hany:bG 99999 (fz id)with
       |true=>rw[hany]at h;exact wp_region_any hm (mV hd _ _ _ _ hy (xf hTy rfl h (hs.bt _) λst' a' w' hk hs' =>⟨rfl,st',hk,hs'⟩))
       |false =>
        rw[hany]at h;simp only at h;cases hv:bG 66666 (fz id)with
        |true=>rw[hv]at h;exact wp_region_any hm (mV hd _ _ _ _ hy (vz hTy rfl h.1 h.2 (hs.bt _) λst' a' w' hk hs' =>⟨rfl,st',hk,hs'⟩))
        |false=>rw[hv]at h;exact wp_region_any hm (mV hd _ _ _ _ hy (uo hTy rfl h (hs.bt _) λst' a' w' hk hs' =>⟨rfl,st',hk,hs'⟩))
     refine wpIn_wide.2 ?_;split at h
     . obtain⟨st',h1,h2⟩:=h;exact key h2 (h1 _ a w hsa)
     . exact key h hsa
  |_=>intro Q p st a w R h;exact h.elim
 intro c Q p st a w R h hs hy hR;exact main c h hs hy λe p' st' a' w' h1 h2 _=>hR e p' st' a' w' h1 h2
def Tt(S:Src):Ex->S.π×Bool->St->Prop:=λe p _=>(match e with| .exit _=>False|_=>True)/\(p.2=true->S.fin p.1)
theorem rl{cx:Cx}(fz:Nat->List Nat)(hT:bl cx)(hm:cx.P.follows .mixedOrders=true){gf:FuncId}{fn:Func}{c:Code}{caps:List D}{S:Src}(hf:cx.P.funcs[gf]? =some fn)(hname:(fn.name== "runtime.NumGoroutine")=false)(hb:fn.body=some c)
 (hres:fn.results= #[]) (hargs:1+caps.length<=fn.ntmps) (h:vci cx fn.ntmps fz S 0 c (Tt S) (S.s0,true) ⟨dZ 1 caps,[]⟩):Cs cx gf caps S:=by
 have hname' :¬fn.name= "runtime.NumGoroutine" :=by simpa using hname
 have hb' :¬fn.body=none:=by rw[hb];simp
 refine⟨λargs w=>by simp[callFunc,hf,hname',hb'],λO G0 w lb hlt hG hgl hsz hcaps l J Jx hj hjx hy h0=>?_⟩;have hTu:qg cx S O l J Jx:=⟨hj,hjx,hy⟩
 refine callsIn_of_wp hf hb trivial ?_ rfl;have hS:zP cx O w.heap.size G0 (λ_=>False) w:=⟨λb hb=>⟨hlt b (.inr hb),λh=>h⟩,λb hb=>hlt b (.inl hb),λb hb=>hb.elim,Nat.le_refl _,hG,λx cells hx=>⟨(hG x cells hx).1,hgl x cells hx⟩⟩
 refine SX hT hm hTu c h (n0:=w.heap.size) (O:=O) ⟨G0,λ_=>False,w,hS,⟨λ_=> .nilFunc,⟨⟨rfl,rfl,rfl,Nat.le_refl _,λ_ _=>rfl⟩,λb hb=> .inr hb,λb hb hf=>?_,rfl,?_,λt=>?_,⟨λs b hs=>by simp[find]at hs,λs s' b hs=>by simp[live,find]at hs⟩,hG,λg cells hg=>⟨λhf=>?_,λho=>?_⟩,λq0 B hB=>by cases hB⟩⟩,h0⟩ ?_ λe p st' a' w' hq hs' =>?_
 . have h1:=hlt b hb;rcases hf with hf|hf
   . exact hf
   . have h2:w.heap.size<=b:=hf;omega
 . show(#[]++ #[_]++lb++Array.replicate _ Go.undef).size=fn.ntmps
   simp;omega
 . have hOwn:∀b,Own (Ei fn.ntmps O G0 (λ_=>False) w).O (live []) (λ_=>Value.nilFunc) b->O b\/G0 b:=λb hb=>by
    rcases hb with hb|⟨s,hl,_⟩
    . exact hb
    . simp[live,find]at hl
   show au w (Ei fn.ntmps O G0 (λ_=>False) w).O (live []) _ (St.get ⟨dZ 1 caps,[]⟩ t) _
   simp only[St.get,jA];by_cases h1:1<=t
   . rw[if_pos h1];cases ht:caps[t-1]? with
     |none=>exact .undef _
     |some x =>
      have hlt:t-1<lb.size:=by rw[hsz];exact(ar.1 ht).1
      obtain⟨u,rfl⟩:∃u,t=u+1:=⟨t-1,by omega⟩
      have e:(#[]++ #[Value.func (.yield l) #[] #[]]++lb++Array.replicate (fn.ntmps-(#[]++ #[Value.func (.yield l) #[] #[]]++lb).size) Go.undef).getD (u+1) Go.undef=lb.getD u Go.undef:=by
       have:u<lb.size:=by simpa using hlt
       simp[bd,Array.getElem?_append,this]
      rw[e];exact fe ((hcaps u x (by simpa using ht)).mono (aQ.less hOwn))
   . rw[if_neg h1];exact .undef _
 . rcases hf with hf|hf
   . exact hf
   . have h2:w.heap.size<=g:=hf;have:=(hG g cells hg).1;omega
 . rcases ho with ho|ho
   . exact(hgl g cells hg).1 ho
   . exact(hgl g cells hg).2 ho
 . show(#[]++ #[Value.func (.yield l) #[] #[]]++lb++Array.replicate _ Go.undef).getD 0 Go.undef=_
   simp[bd,Array.getElem?_append]
 . obtain⟨G,I,W,hS',⟨σ,hs2⟩,hA⟩:=hs';obtain⟨I',_,_,hs3,hA'⟩:=hTu.settle hS' hs2 hA;have fin:(∃k G I,S.fin k/\J k G I w')\/ ∃k G I,Jx k G I w' :=by
    unfold AtK at hA';cases hp:p.2 with
    |true=>rw[hp]at hA';exact .inl ⟨p.1,G,I',hq.2 hp,hA'⟩
    |false=>rw[hp]at hA';exact .inr ⟨p.1,G,I',hA'⟩
   have hdf:a'.defers=[]:=hs2.defers;cases e with
   |normal=>exact bodyPost_end (results_none hres _ _ _) hdf ⟨⟨_,rfl⟩,fin⟩
   |ret=>exact bodyPost_ret (results_none hres _ _ _) hdf ⟨⟨_,rfl⟩,fin⟩
   |exit id=>exact hq.1.elim
end NQ
