/-
  Merged texts.
-/
import Derived.Test.YtodofogcincleaaGreatDoorMQr
import Derived.Scope
set_option linter.all false
namespace NQ
open Go Go.RowKit
inductive Ex where
 |normal
 |exit (id:Nat)
 |ret
def Ex.out:Ex->Exit
 | .normal=> .normal
 | .exit id=> .exit id
 | .ret=> .ret
def aK(cx:Cx)(st st' :St):Prop:= ∀(E:Env) a w,Sim cx E st a w->Sim cx E st' a w
theorem aK.refl{cx:Cx}(st:St):aK cx st st:=λ_ _ _ h=>h
theorem aK.trans{cx:Cx}{a b c:St}(h:aK cx a b)(k:aK cx b c):aK cx a c:=λE x w hs=>k E x w (h E x w hs)
def zj(cx:Cx)(nt:Nat)(fr:List Nat)(ops:Array Oper)(draw:Bool)(Q:St->Prop)(st:St):Prop :=
 (match draw with
  |false=>(match dg 88888 fr with
   |true=>seqB cx nt ops.toList ops.toList Q (st.bP fr)
   |false=>pH cx nt false ops.toList ops.toList Q (st.bP fr))
  |true=>(match dg 99999 fr with
   |true=>pt cx nt ops.toList Q (ops.size+1) [] (st.bP fr)
   |false=>(match dg 66666 fr with
    |true=>mj ops.toList=true/\kN cx nt ops.toList Q (ops.size+1) [] [] (st.bP fr)
    |false=>Ku cx nt ops.toList Q (st.bP fr))))
def vc(cx:Cx)(nt:Nat)(fz:Nat->List Nat):Code->(Ex->St->Prop)->St->Prop
 | .skip,Q,st=>Q .normal st
 | .label _,Q,st=>Q .normal st
 | .seq a b,Q,st=>vc cx nt fz a (λe s=>match e with| .normal=>vc cx nt fz b Q s| .exit id=>Q (.exit id) s| .ret=>Q .ret s) st
 | .cond c a b,Q,st=>(match st.ev cx c with
  | .d (.bool t)=>rq t (vc cx nt fz a Q st) (vc cx nt fz b Q st)
  | .maybe p=>(p=true->vc cx nt fz a Q st)/\vc cx nt fz b Q st
  |_=>False)
 | .block id body,Q,st=>vc cx nt fz body (λe s=>match e with| .normal=>Q .normal s| .exit j=>(match Nat.beq j id with|true=>Q .normal s|false=>Q (.exit j) s)| .ret=>Q .ret s) st
 | .loop body, Q, st => ∃ (α : Type) (f : α -> St) (J : α -> Prop) (μ : α -> Nat), (∃ x, J x /\ aK cx st (f x)) /\
     ∀x,J x->vc cx nt fz body (λe s=>match e with| .normal=> ∃y,J y/\μ y<μ x/\aK cx s (f y)| .exit j=>Q (.exit j) s| .ret=>Q .ret s) (f x)
 | .exit id,Q,st=>Q (.exit id) st
 | .ret,Q,st=>Q .ret st
 | .region id ops draw,Q,st=>(match dg 55555 (fz id)with
  |true=> ∃st',aK cx st st' /\zj cx nt (fz id) ops draw (Q .normal) st'
  |false=>zj cx nt (fz id) ops draw (Q .normal) st)
 | .scope c,Q,st=>vc cx nt fz c Q st
 |_,_,_=>False
theorem Ed{cx:Cx}{nt:Nat}{fz:Nat->List Nat}(hT:bD cx)(hm:cx.P.follows .mixedOrders=true){E:Env}(hn:E.nt=nt):∀(c:Code) {Q:Ex->St->Prop} {st:St} {a:Act} {w:World} {R:Exit->Act->World->Prop},vc cx nt fz c Q st->Sim cx E st a w ->
 (∀e st' a' w',Q e st' ->Sim cx E st' a' w' ->R e.out a' w')->c.wp cx.P R a w:=by
 intro c;induction c with
 |skip=>intro Q st a w R h hs hR;exact wp_skip (hR .normal st a w h hs)
 |label l=>intro Q st a w R h hs hR;exact wp_label (hR .normal st a w h hs)
 |exit id=>intro Q st a w R h hs hR;exact wp_exit (hR (.exit id) st a w h hs)
 |ret=>intro Q st a w R h hs hR;exact wp_ret (hR .ret st a w h hs)
 |seq x y xO xP =>
  intro Q st a w R h hs hR;refine wp_seq (xO (R:=Exit.then (y.wp cx.P R) R) h hs λe st' a' w' hq hA =>?_);cases e with
  |normal=>exact xP hq hA hR
  |exit id=>exact hR (.exit id) st' a' w' hq hA
  |ret=>exact hR .ret st' a' w' hq hA
 |cond c x y xO xP =>
  intro Q st a w R h hs hR;simp only[vc]at h;split at h
  .rename_i t ht;have hr:a.eval c= .bool t:=by
    obtain⟨σ,hs⟩:=hs;have:=hs.ev (St.le.refl st) c;rw[ht]at this;exact this.bool
   cases t with
   |true=>exact wp_cond_true hr (xO h hs hR)
   |false=>exact wp_cond_false hr (xP h hs hR)
  .rename_i p ht;have hr:∃t,a.eval c= .bool t/\(t=true->p=true):=by
    obtain⟨σ,hs⟩:=hs;have:=hs.ev (St.le.refl st) c;rw[ht]at this;generalize a.eval c=u at this;cases this with|maybe _ b hb=>exact⟨b,rfl,hb⟩
   obtain⟨t,hr,hp⟩:=hr;cases t with
   |true=>exact wp_cond_true hr (xO (h.1 (hp rfl)) hs hR)
   |false=>exact wp_cond_false hr (xP h.2 hs hR)
  .exact h.elim
 |block id body ih =>
  intro Q st a w R h hs hR;refine wp_block (ih (R:=Exit.inBlock id R) h hs λe st' a' w' hq hA =>?_);cases e with
  |normal=>exact hR .normal st' a' w' hq hA
  |exit j =>
   dsimp only at hq;split at hq
   .rename_i hj;have hj:=bd hj;simp only[Ex.out,Exit.inBlock,hj,if_true];exact hR .normal st' a' w' hq hA
   .rename_i hj;have hj:j≠id:=λe=>by subst e;simp at hj
    simp only[Ex.out,Exit.inBlock,hj,if_false];exact hR (.exit j) st' a' w' hq hA
  |ret=>exact hR .ret st' a' w' hq hA
 |loop body ih =>
  intro Q st a w R h hs hR;obtain⟨α,f,J,μ,⟨x,hx,hw⟩,xn⟩:=h;refine wp_loop_ghost (λn a w=> ∃y,J y/\μ y=n/\Sim cx E (f y) a w) (μ x) ⟨x,hx,rfl,hw E a w hs⟩ ?_;rintro n a w ⟨y,hy,rfl,hA⟩;refine ih (xn y hy) hA λe st' a' w' hq xo =>?_
  cases e with
  |normal =>
   obtain⟨z,hz,hM,zy⟩:=hq;exact⟨μ z,hM,z,hz,rfl,zy E a' w' xo⟩
  |exit j=>exact hR (.exit j) st' a' w' hq xo
  |ret=>exact hR .ret st' a' w' hq xo
 |region id ops draw =>
  intro Q st a w R h hs hR;simp only[vc]at h;have key:∀{st:St},zj cx nt (fz id) ops draw (Q .normal) st->Sim cx E st a w->(Code.region id ops draw).wp cx.P R a w:=by
   intro st h hs;unfold zj at h;cases draw with
   |false =>
    simp only at h;cases hb:dg 88888 (fz id)with
    |true=>rw[hb]at h;exact wp_region_list (jW hT hn ops.toList h (hs.bP _) λst' a' w' hk hA =>hR .normal st' a' w' hk hA)
    |false=>rw[hb]at h;exact wp_region_list (qt hT hn ops.toList h (hs.bP _) λst' a' w' hk hA =>hR .normal st' a' w' hk hA)
   |true =>
    simp only at h;cases hany:dg 99999 (fz id)with
    |true=>rw[hany]at h;exact IN hT hm hn h (hs.bP _) λst' a' w' hk hA =>hR .normal st' a' w' hk hA
    |false =>
     rw[hany]at h;simp only at h;cases hv:dg 66666 (fz id)with
     |true=>rw[hv]at h;exact GQ hT hm hn h.1 h.2 (hs.bP _) λst' a' w' hk hA =>hR .normal st' a' w' hk hA
     |false=>rw[hv]at h;exact Fe hT hm hn h (hs.bP _) λst' a' w' hk hA =>hR .normal st' a' w' hk hA
  cases hw:dg 55555 (fz id)with
  |true=>rw[hw]at h;obtain⟨st',h1,h2⟩:=h;exact key h2 (h1 E a w hs)
  |false=>rw[hw]at h;exact key h hs
 |scope c ih =>
  intro Q st a w R h hs hR;refine wp_scope_straight (ih (R:=Exit.noGoto R) h hs λe st' a' w' hq hA =>?_);cases e <;> exact hR _ st' a' w' hq hA
 |_=>intro Q st a w R h;exact h.elim
def Ec:Nat->Code->Code
 |0,c=>c
 |n+1,.seq _ b=>Ec n b
 |_+1,c=>c
def Ch(cx:Cx)(st:St):List ResultVar->Option (List AV)
 |[]=>some []
 | .tmp t::r=>(match nU (st.get t),Ch cx st r with|some v,some vs=>some (v::vs)|_,_=>none)
 | .cell s t::r=>(match st.get s with
  | .ptr b off=>(match find st.heap b with
   |some (.box cells)=>(match takeN cx t (cells.drop off),Ch cx st r with|some v,some vs=>some (v::vs)|_,_=>none)
   |_=>none)
  |_=>none)
def mF(cx:Cx)(st:St)(rs:List ResultVar):Option AV :=
 match Ch cx st rs with
 |some [v]=>some v
 |some vs=>some (.tuple vs)
 |none=>none
def iL(i:Nat):List D->List (Nat×AV)
 |[]=>[]
 |x::t=>(i,x.dX)::iL (i+1) t
def RI(st:St):AV->Option AV
 | .tuple vs=>(match cA (gU st) vs with|some xs=>some (.tuple (xs.map D.dX))|none=>none)
 |v=>(match gU st v with|some x=>some x.dX|none=>none)
def QT(cx:Cx)(rs:List ResultVar)(st:St):Option AV:=match mF cx st rs with|some v=>RI st v|none=>none
def Lp(cx:Cx)(rs:List ResultVar)(v:AV)(bs:List (Nat×Blk))(st:St):Prop:=(bs=[]/\QT cx rs st=some v)\/(∃st',aK cx st st' /\st'.heap=bs/\mF cx st' rs=some v) \/
 ∃v0,mF cx st rs=some v0/\ ∀(E:Env) σ a w u,bN cx E st σ a w->aG w E.O (live st.heap) σ v0 u-> ∃τ,Holds w E.F E.O bs τ/\aG w E.O (live bs) τ v u
theorem al{cx:Cx}{rs:List ResultVar}{v x:AV}{st:St}(h:QT cx rs st=some x)(e:x=v):Lp cx rs v [] st:= .inl ⟨rfl,e ▸ h⟩
def fnQ(cx:Cx)(rs:List ResultVar)(v:AV)(bs:List (Nat×Blk)):Ex->St->Prop
 | .normal,st=>Lp cx rs v bs st
 | .ret,st=>Lp cx rs v bs st
 | .exit _,_=>False
theorem px:∀(i:Nat) (l:List D) (t:Nat),find (iL i l) t=if i<=t then(l[t-i]?).map D.dX else none
 |i,[],t=>by simp[iL,find]
 |i,x::l,t=>by
  simp only[iL];by_cases h:i=t
  .subst h;rw[bk];simp
  .rw[bl _ _ h,px (i+1) l t];by_cases hl:i<t
   .rw[if_pos (by omega),if_pos (by omega)];obtain⟨q,hq⟩:∃q,t-i=q+1:=⟨t-i-1,by omega⟩
    rw[hq,show t-(i+1)=q by omega];rfl
   .rw[if_neg (by omega),if_neg (by omega)]
def uB(tmps:Array Value):ResultVar->Sem Value
 | .tmp t=>pure (tmps.getD t Go.undef)
 | .cell a t=>do loadVar t (<- asAddr (tmps.getD a Go.undef))
theorem AO(fn:Func)(tmps:Array Value):results fn tmps=(do let vs <- fn.results.mapM (uB tmps);pure (if h:vs.size=1 then vs[0]else .tuple vs)):=by
 unfold results
 congr 1
theorem oG{cx:Cx}(hT:bD cx){E:Env}{st:St}{σ:Nat->Value}{a:Act}{w:World}(hs:bN cx E st σ a w):∀(rs:List ResultVar) (vs:List AV),Ch cx st rs=some vs ->
 ∃us:List Value,(rs.mapM (uB a.tmps)).run cx.P w= .ok us w/\us.length=vs.length /\
  ∀(j:Nat) c,vs[j]? =some c->aG w E.O (live st.heap) σ c (us.getD j Go.undef)
 |[],vs,h=>by cases h;exact⟨[],by simp,rfl,λj c hj=>by simp at hj⟩
 | .tmp t::rs,vs,h=>by
  simp only[Ch]at h;split at h
  .rename_i v yq hv yn;cases h;obtain⟨us,h1,h2,h3⟩:=oG hT hs rs yq yn;have h0:(uB a.tmps (.tmp t)).run cx.P w= .ok (a.tmps.getD t Go.undef) w:=rfl;refine⟨a.tmps.getD t Go.undef::us,by simp only[List.mapM_cons,Sem.run_bind,h0,Result.andThen,h1,Sem.run_pure],by simp[h2],λj c hj=>?_⟩;cases j with
   |zero=>simp at hj;subst hj;have:=hs.aV t;rw[<- mZ hv]at this;exact this
   |succ j=>simp at hj;simpa using h3 j c hj
  .cases h
 | .cell b t::rs,vs,h=>by
  simp only[Ch]at h;split at h
  .rename_i s off hb;split at h
   .rename_i cells hf;split at h
    .rename_i v yq hv yn;cases h;obtain⟨us,h1,h2,h3⟩:=oG hT hs rs yq yn;have hr:=hs.aV b;rw[hb]at hr;obtain⟨g,cur,tt,e1,e2,e3,e4,e5⟩:=hs.holds.blk s _ hf;have kI:a.tmps.getD b Go.undef= .pointer (some ⟨g,off,none⟩):=by
      generalize a.tmps.getD b Go.undef=u at hr
      cases hr with|ptr _ _ _ hL hσ=>rw[hσ]at e1;cases e1;rfl
     obtain⟨z,hz,xE⟩:=mA (w:=w) (O:=E.O) (L:=live st.heap) (σ:=σ) hT (oJ hv) (b:=g) (o:=off) (λj=>cur.getD (off+j) Go.undef) (λj c hj=>by
      rw[List.getElem?_drop]at hj;have hM:off+j<cur.size:=by have:=(aB.1 hj).1;omega
      simp[World.cell?,e3,hM]) (λj c hj=>by rw[List.getElem?_drop]at hj;exact(e5 _ c hj).2)
     have zz :(loadVar t ⟨g,off,none⟩).run cx.P w= .ok z w:=by simpa [Instr.loadAt,Instr.sureAddr] using hz
     have h0:(uB a.tmps (.cell b t)).run cx.P w= .ok z w:=by simp only[uB,kI,asAddr,Sem.run_bind,Sem.run_pure,Result.andThen,zz]
     refine⟨z::us,by simp only[List.mapM_cons,Sem.run_bind,h0,Result.andThen,h1,Sem.run_pure],by simp[h2],λj c hj=>?_⟩;cases j with
     |zero=>simp at hj;subst hj;exact xE
     |succ j=>simp at hj;simpa using h3 j c hj
    .cases h
   .cases h
  .cases h
theorem eR{cx:Cx}(fz:Nat->List Nat)(hT:bD cx)(hm:cx.P.follows .mixedOrders=true){f:FuncId}{fn:Func}{c:Code}{args:List D}{v:AV}{bs:List (Nat×Blk)}(hf:cx.P.funcs[f]? =some fn)(h:vc cx fn.ntmps fz c (fnQ cx fn.results.toList v bs) ⟨iL 0 args,[]⟩)(kb:(fn.name== "runtime.NumGoroutine")=false:=by kernel_rfl)(hb:fn.body=some c:=by exact rfl)(kv:args.length<=fn.ntmps:=by exact bB rfl):Fn cx f args v bs:=by
 refine⟨⟨fn,hf,kb,by rw[hb];rfl⟩,λO w vs hO hG xK hN ki=>?_⟩;refine calls_of_wp hf hb ?_
 let E:Env:=⟨(w.heap.size<= ·),O,w,fn.ntmps,λ_=>none,[]⟩
 have hs:Sim cx E ⟨iL 0 args,[]⟩ {tmps:=vs++Array.replicate (fn.ntmps-vs.size) Go.undef,defers:=[]} w:=by
  refine⟨λ_=> .nilFunc,⟨rfl,rfl,rfl,Nat.le_refl _,λ_ _=>rfl⟩,λb hb=>hb,λb hb=>Nat.not_le.2 (hO b hb),rfl,?_,λt=>?_,⟨λs b hs=>by simp[find]at hs,λs s' b hs=>by simp[live,find]at hs⟩,hG,λg cells hg=>⟨Nat.not_le.2 (hG g cells hg).1,xK g cells hg⟩,λq0 B hB=>by cases hB⟩
  .show(vs++Array.replicate (fn.ntmps-vs.size) Go.undef).size=fn.ntmps
   simp;omega
  .show aG w O (live []) _ (St.get ⟨iL 0 args,[]⟩ t) _
   have ku:∀b,Own O (live []) (λ_=>Value.nilFunc) b->O b:=λb hb=>by
    rcases hb with hb|⟨s,hl,_⟩
    .exact hb
    .simp[live,find]at hl
   simp only[St.get,px,Nat.zero_le,if_true,Nat.sub_zero];cases ht:args[t]? with
   |none=>exact .undef _
   |some x =>
    have hM:t<vs.size:=by rw[hN];exact(aB.1 ht).1
    have:(vs++Array.replicate (fn.ntmps-vs.size) Go.undef).getD t Go.undef=vs.getD t Go.undef:=by simp[Array.getElem?_append,hM]
    rw[this];exact iR ((ki t x ht).mono (bw.less ku))
 refine Ed hT hm (E:=E) rfl c h hs λe st' a' w' hq hA =>?_
 have key:∀st',Lp cx fn.results.toList v bs st' ->Sim cx E st' a' w' ->a'.defers=[]/\ ∃u,(results fn a'.tmps).run cx.P w' = .ok u w' /\ ∃u' τ,Ending.returned u= .returned u' /\Below w.heap.size w w' /\Holds w' (w.heap.size<= ·) O bs τ/\aG w' O (live bs) τ v u' :=by
  intro st' hq hA;have run:∀{st2:St} {τ:Nat->Value} {v0:AV},bN cx E st2 τ a' w' ->mF cx st2 fn.results.toList=some v0->Below w.heap.size w w' /\a'.defers=[]/\ ∃u,(results fn a'.tmps).run cx.P w' = .ok u w' /\aG w' O (live st2.heap) τ v0 u:=by
   intro st2 τ v0 hE hr;unfold mF at hr;have kc:Below w.heap.size w w' :=⟨hE.frame.os,hE.frame.tape,hE.frame.output,hE.frame.size,λk hk=>hE.frame.block k (Nat.not_le.2 hk)⟩
   have kE:∀us:List Value,(fn.results.toList.mapM (uB a'.tmps)).run cx.P w' = .ok us w' ->(results fn a'.tmps).run cx.P w' = .ok (if h:us.toArray.size=1 then us.toArray[0]else .tuple us.toArray) w' :=λus ym=>by
    have hm:(fn.results.mapM (uB a'.tmps)).run cx.P w' = .ok us.toArray w' :=by
     rw[Array.mapM_eq_mapM_toList];simp[ym]
    rw[AO];simp only[Sem.run_bind,hm,Result.andThen,Sem.run_pure]
   refine⟨kc,hE.defers,?_⟩;split at hr
   .rename_i v1 hv;cases hr;obtain⟨us,h1,h2,h3⟩:=oG hT hE _ _ hv
    match us,h2 with
    |[u],_=>exact⟨u,by rw[kE _ h1];simp,by simpa using h3 0 _ rfl⟩
   .rename_i yr kf hv;cases hr;obtain⟨us,h1,h2,h3⟩:=oG hT hE _ _ hv;have hl:¬us.length=1:=λe=>by
     rw[h2]at e
     match yr,e with
     |[x],_=>exact kf x rfl
    exact⟨.tuple us.toArray,by rw[kE _ h1];simp[hl],.tuple _ _ (by simp[h2]) λj c hj=>by simpa [List.getD] using h3 j c hj⟩
   .cases hr
  rcases hq with ⟨rfl,hr⟩|⟨st2,hw,rfl,hr⟩|⟨v0,hr,hk⟩
  .obtain⟨τ,hE⟩:=hA;unfold QT at hr;split at hr
   .rename_i v0 zx;obtain⟨kc,ky,u,hu,kS⟩:=run hE zx;refine⟨ky,u,hu,u,λ_=> .nilFunc,rfl,kc,⟨λs b hs=>by simp[find]at hs,λs s' b hs=>by simp[live,find]at hs⟩,?_⟩;have lift:∀{x:D} {z:Value},Rep w' O x z->aG w' O (live []) (λ_=>Value.nilFunc) x.dX z:=λh=>iR (h.mono (bw.less λb hb=>by
     rcases hb with hb|⟨s,hl,_⟩
     .exact hb
     .simp[live,find]at hl))
    unfold RI at hr;split at hr
    .split at hr
     .rename_i xs yo;cases hr;obtain⟨l1,l2⟩:=cD yo;cases kS with|tuple _ us hl hh =>
       refine .tuple _ _ (by simp[hl,l1]) λj c hj=>?_
       rw[bc]at hj;cases hx:xs[j]? with
       |none=>rw[hx]at hj;cases hj
       |some x =>
        rw[hx]at hj;cases hj;obtain⟨c0,xU,hv⟩:=l2 j x hx;exact lift (wQ hE.holds hE.apart hv (hh j c0 xU))
     .cases hr
    .split at hr
     .rename_i x hx;cases hr;exact lift (wQ hE.holds hE.apart hx kS)
     .cases hr
   .cases hr
  .obtain⟨τ,hE⟩:=hw E a' w' hA;obtain⟨kc,ky,u,hu,kS⟩:=run hE hr;exact⟨ky,u,hu,u,τ,rfl,kc,hE.holds,kS⟩
  .obtain⟨σ,hE⟩:=hA;obtain⟨kc,ky,u,hu,kS⟩:=run hE hr;obtain⟨τ,h1,h2⟩:=hk E σ a' w' u hE kS;exact⟨ky,u,hu,u,τ,rfl,kc,h1,h2⟩
 cases e with
 |normal=>exact key st' hq hA
 |ret=>exact key st' hq hA
 |exit id=>exact hq.elim
theorem aT{cx:Cx}(hT:bD cx)(hm:cx.P.follows .mixedOrders=true){f:FuncId}{fn:Func}{c:Code}{args:List D}{v:AV}{bs:List (Nat×Blk)}(hf:cx.P.funcs[f]? =some fn)(h:vc cx fn.ntmps (λ_=>[]) c (fnQ cx fn.results.toList v bs) ⟨iL 0 args,[]⟩)(kb:(fn.name== "runtime.NumGoroutine")=false:=by kernel_rfl)(hb:fn.body=some c:=by exact rfl)(kv:args.length<=fn.ntmps:=by exact bB rfl):Fn cx f args v bs:=eR (λ_=>[]) hT hm hf h kb hb kv
def RV:AV->Option AV
 | .tuple vs=>(match cA ir vs with|some xs=>some (.tuple (xs.map D.dX))|none=>none)
 |v=>(match ir v with|some x=>some x.dX|none=>none)
def QS(cx:Cx)(rs:List ResultVar)(v:AV)(cells' :List D)(st:St):Prop :=
 ∃(fl:List Nat) (v0:AV) (cs:List AV),mF cx (st.bP fl) rs=some v0/\RV v0=some v/\find (st.bP fl).heap 100000=some (.box cs)/\cA eI cs=some cells'
def Vb(cx:Cx)(rs:List ResultVar)(v:AV)(cells' :List D):Ex->St->Prop
 | .normal,st=>QS cx rs v cells' st
 | .ret,st=>QS cx rs v cells' st
 | .exit _,_=>False
theorem oH{cx:Cx}(hT:bD cx){E:Env}{fn:Func}{st2:St}{τ:Nat->Value}{a' :Act}{w' :World}{v0:AV}(hE:bN cx E st2 τ a' w')(hr:mF cx st2 fn.results.toList=some v0) :
 ∃u,(results fn a'.tmps).run cx.P w' = .ok u w' /\aG w' E.O (live st2.heap) τ v0 u:=by
 unfold mF at hr;have kE:∀us:List Value,(fn.results.toList.mapM (uB a'.tmps)).run cx.P w' = .ok us w' ->(results fn a'.tmps).run cx.P w' = .ok (if h:us.toArray.size=1 then us.toArray[0]else .tuple us.toArray) w' :=λus ym=>by
  have hm:(fn.results.mapM (uB a'.tmps)).run cx.P w' = .ok us.toArray w' :=by
   rw[Array.mapM_eq_mapM_toList];simp[ym]
  rw[AO];simp only[Sem.run_bind,hm,Result.andThen,Sem.run_pure]
 split at hr
 .rename_i v1 hv;cases hr;obtain⟨us,h1,h2,h3⟩:=oG hT hE _ _ hv
  match us,h2 with
  |[u],_=>exact⟨u,by rw[kE _ h1];simp,by simpa using h3 0 _ rfl⟩
 .rename_i yr kf hv;cases hr;obtain⟨us,h1,h2,h3⟩:=oG hT hE _ _ hv;have hl:¬us.length=1:=λe=>by
   rw[h2]at e
   match yr,e with
   |[x],_=>exact kf x rfl
  exact⟨.tuple us.toArray,by rw[kE _ h1];simp[hl],.tuple _ _ (by simp[h2]) λj c hj=>by simpa [List.getD] using h3 j c hj⟩
 .cases hr
theorem KD{cx:Cx}(fz:Nat->List Nat)(hT:bD cx)(hm:cx.P.follows .mixedOrders=true){f:FuncId}{fn:Func}{c:Code}{cells args:List D}{v:AV}{cells' :List D}(hf:cx.P.funcs[f]? =some fn)(h:vc cx fn.ntmps fz c (Vb cx fn.results.toList v cells') ⟨(0,.ptr 100000 0)::iL 1 args,[(100000,.box (cells.map .d))]⟩)(kb:(fn.name== "runtime.NumGoroutine")=false:=by kernel_rfl)(hb:fn.body=some c:=by exact rfl)(kv:args.length+1<=fn.ntmps:=by exact bB rfl)(zm:fn.ntmps<=100000:=by exact bB rfl):FnB cx f cells args v cells' :=by
 refine⟨⟨fn,hf,kb,by rw[hb];rfl⟩,λO w B cur t vs hO hG xK xR hB kZ kx hN ki=>?_⟩;refine calls_of_wp hf hb ?_
 let E:Env:=⟨λb=>b=B\/w.heap.size<=b,λb=>O b/\b≠B,w,fn.ntmps,λq=>if q=100000 then some B else none,[]⟩
 let σ:Nat->Value:=λ_=> .pointer (some ⟨B,0,none⟩)
 have yP:B<w.heap.size:=hO B xR;have hZ:∀s,live [(100000,Blk.box (cells.map .d))] s ↔ s=100000:=λs=>cv
 have ku:∀b,Own E.O (live [(100000,Blk.box (cells.map .d))]) σ b ↔ O b:=λb=>by
  constructor
  .rintro(⟨h,_⟩|⟨s,_,e⟩)
   .exact h
   .cases e;exact xR
  .intro h;by_cases e:b=B
   .subst e;exact .inr ⟨100000,(hZ _).2 rfl,rfl⟩
   .exact .inl ⟨h,e⟩
 have hk:bw w w O (Own E.O (live [(100000,Blk.box (cells.map .d))]) σ):=bw.less λb hb=>(ku b).1 hb
 have hs:Sim cx E ⟨(0,.ptr 100000 0)::iL 1 args,[(100000,.box (cells.map .d))]⟩ {tmps:=(#[.pointer (some ⟨B,0,none⟩)]++vs)++Array.replicate (fn.ntmps-(#[Value.pointer (some ⟨B,0,none⟩)]++vs).size) Go.undef,defers:=[]} w:=by
  refine⟨σ,⟨rfl,rfl,rfl,Nat.le_refl _,λ_ _=>rfl⟩,λb hb=> .inr hb,λb hb hF=>?_,rfl,?_,λt=>?_,⟨λs b hs=>?_,λs s' b hs hA _ _=>((hZ s).1 hs).trans ((hZ s').1 hA).symm⟩,hG,λg cells hg=>⟨λhF=>?_,λkW =>xK g cells hg kW.1⟩,λq0 B' yt =>by
   by_cases hq:q0=100000
   .subst hq;exact⟨⟨zm,Nat.le_refl _⟩,λ_=>by cases yt;rfl⟩
   .exact absurd yt (by show(if q0=100000 then some B else none)≠some B';rw[if_neg hq];simp)⟩
  .rcases hF with e|e
   .exact hb.2 e
   .have:=hO b hb.1;omega
  .show((#[Value.pointer (some ⟨B,0,none⟩)]++vs)++Array.replicate _ Go.undef).size=fn.ntmps
   simp;omega
  .rcases t with _|t
   .show aG w E.O (live [(100000,Blk.box (cells.map .d))]) σ (.ptr 100000 0) _
    have:((#[Value.pointer (some ⟨B,0,none⟩)]++vs)++Array.replicate (fn.ntmps-(#[Value.pointer (some ⟨B,0,none⟩)]++vs).size) Go.undef).getD 0 Go.undef= .pointer (some ⟨B,0,none⟩):=by simp[Array.getElem?_append]
    rw[this];exact .ptr _ _ B ((hZ _).2 rfl) rfl
   .have hg:St.get ⟨(0,.ptr 100000 0)::iL 1 args,[(100000,Blk.box (cells.map .d))]⟩ (t+1)=match (args[t]?).map D.dX with|some v=>v|none=> .undef:=by
     unfold St.get;rw[bl _ _ (by omega),px,if_pos (by omega),Nat.add_sub_cancel];cases args[t]? <;> rfl
    rw[hg];cases ht:args[t]? with
    |none=>exact .undef _
    |some x =>
     have hM:t<vs.size:=by rw[hN];exact(aB.1 ht).1
     have:((#[Value.pointer (some ⟨B,0,none⟩)]++vs)++Array.replicate (fn.ntmps-(#[Value.pointer (some ⟨B,0,none⟩)]++vs).size) Go.undef).getD (t+1) Go.undef=vs.getD t Go.undef:=by simp[Array.getElem?_append,hM]
     rw[this];exact iR ((ki t x ht).mono hk)
  .have hA :=(hZ s).1 (aH.2 ⟨b,hs⟩);subst hA;have hs:find [(100000,Blk.box (cells.map AV.d))] 100000=some b:=hs;rw[bk]at hs;cases hs;refine⟨B,cur,t,rfl,.inl rfl,hB,by simpa using kZ,λj c hj=>?_⟩;rw[bc]at hj;cases hc:cells[j]? with
   |none=>rw[hc]at hj;cases hj
   |some d=>rw[hc]at hj;cases hj;exact⟨.inl (kx j d hc).1,.d _ _ ((kx j d hc).2.mono hk)⟩
  .rcases hF with e|e
   .exact xK g cells hg (e ▸ xR)
   .have:=(hG g cells hg).1;omega
 refine Ed hT hm (E:=E) rfl c h hs λe st' a' w' hq hA =>?_
 have key : ∀ st', QS cx fn.results.toList v cells' st' -> Sim cx E st' a' w' -> a'.defers = [] /\ ∃ u, (results fn a'.tmps).run cx.P w' = .ok u w' /\ ∃ u' kt t', Ending.returned u = .returned u' /\ w'.os = w.os /\ w'.tape = w.tape /\ w'.output = w.output /\ w.heap.size <= w'.heap.size /\
     (∀k,k<w.heap.size->k≠B->w'.heap[k]? =w.heap[k]?)/\w'.heap[B]? =some (.cells kt t' (0,0))/\kt.size=cells'.length/\(∀(j:Nat) d,cells'[j]? =some d->d.one=true/\Rep w' O d (kt.getD j Go.undef)) /\
     aG w' O (λ_=>False) (λ_=> .nilFunc) v u' :=by
  rintro st' ⟨fl,v0,cs,hr,hJ,xe,xI⟩ hA;obtain⟨τ,hE⟩:=hA.bP fl;generalize st'.bP fl=st2 at hr xe hE;have yG:live st2.heap 100000:=aH.2 ⟨_,xe⟩;have hτ:=(hE.fix 100000 B (show(if (100000:Nat)=100000 then some B else none)=some B from if_pos rfl)).2 yG;obtain⟨b,kt,t',g1,g2,g3,g4,g5⟩:=hE.holds.blk 100000 _ xe;rw[hτ]at g1;cases g1;obtain⟨u,hu,kS⟩:=oH hT hE hr;have kY:bw w' w' (Own E.O (live st2.heap) τ) O:=bw.less λx hx=>by
   by_cases e:x=B
   .subst e;exact .inr ⟨100000,yG,by rw[hτ];rfl⟩
   .exact .inl ⟨hx,e⟩
  have lift:∀{x:D} {z:Value},Rep w' (Own E.O (live st2.heap) τ) x z->aG w' O (λ_=>False) (λ_=>Value.nilFunc) x.dX z:=λh=>iR ((h.mono kY).mono (bw.less λb hb=>by
   rcases hb with hb|⟨s,hl,_⟩
   .exact hb
   .exact hl.elim))
  obtain⟨m1,m2⟩:=cD xI;refine⟨hE.defers,u,hu,u,kt,t',rfl,hE.frame.os,hE.frame.tape,hE.frame.output,hE.frame.size,λk hk kf=>hE.frame.block k λhF=>?_,g3,by rw[g4,m1],λj d hj=>?_,?_⟩
  .rcases hF with e|e
   .exact kf e
   .omega
  .obtain⟨cc,xg,hU⟩:=m2 j d hj;refine⟨?_,(iC hU (g5 j cc xg).2).mono kY⟩;have h1:=(g5 j cc xg).1;cases cc <;> simp[eI]at hU
   .subst hU;rcases h1 with h1|h1
    .exact h1
    .cases h1
   .subst hU;rfl
  .unfold RV at hJ;split at hJ
   .split at hJ
    .rename_i xs yo;cases hJ;obtain⟨l1,l2⟩:=cD yo;cases kS with|tuple _ us hl hh =>
      refine .tuple _ _ (by simp[hl,l1]) λj c hj=>?_
      rw[bc]at hj;cases hx:xs[j]? with
      |none=>rw[hx]at hj;cases hj
      |some x =>
       rw[hx]at hj;cases hj;obtain⟨c0,xU,hv⟩:=l2 j x hx;exact lift (jr hv (hh j c0 xU))
    .cases hJ
   .split at hJ
    .rename_i x hx;cases hJ;exact lift (jr hx kS)
    .cases hJ
 cases e with
 |normal=>exact key st' hq hA
 |ret=>exact key st' hq hA
 |exit id=>exact hq.elim
def zcB:AV->Value->Bool
 | .d (.int k n),.int k' n' =>decide (k=k')&&decide (n=n')
 | .d (.bool b),.bool b' =>b==b'
 | .d (.str s),.string t=>decide (t.data.toList=s)
 | .nil _,.slice none 0 0=>true
 | .d .iy,.map none=>true
 | .undef,_=>true
 |_,_=>false
theorem UG{c:AV}{v:Value}(h:zcB c v=true):jA c v:=by
 unfold zcB at h;split at h
 .simp at h;obtain⟨rfl,rfl⟩:=h;rfl
 .simp at h;subst h;rfl
 .rename_i s t;simp at h;show Value.string t= .string ⟨s.toArray⟩
  subst h;cases t;simp
 .rfl
 .rfl
 .trivial
 .cases h
def zP:List AV->List Value->Bool
 |[],[]=>true
 |c::t,v::r=>zcB c v&&zP t r
 |_,_=>false
theorem Cv:∀{l:List AV} {r:List Value},zP l r=true->r.length=l.length/\ ∀(j:Nat) c,l[j]? =some c->jA c (r.getD j Go.undef)
 |[],[],_=>⟨rfl,λj c h=>by simp at h⟩
 |c::t,v::r,h=>by
  simp only[zP,aU]at h;obtain⟨h1,h2⟩:=Cv h.2;refine⟨by simp[h1],λj x hj=>?_⟩;cases j with
  |zero=>simp at hj;subst hj;exact UG h.1
  |succ j=>simp at hj;simpa using h2 j x hj
 |[],_::_,h=>by cases h
 |_::_,[],h=>by cases h
def Uv(agg:Bool):Value->Bool
 | .agg _=>agg
 | .tuple _=>false
 |_=> !agg
def JQ(P:Program)(t:TypeId)(ti:TI):Bool :=
 match P.info? t,P.underlying t with
 | some info, some desc => decide (kindOf desc = ti.kind) && Nat.beq info.size ti.size && Nat.beq info.bytes ti.bytes &&
     (match info.zero with|some z=>zP ti.zero z.cells.toList&&Nat.beq ti.size ti.zero.length&&Uv ti.kind.isAgg z|none=>false)
 |_,_=>false
theorem LS{cx:Cx}{tab:List (Nat×TI)}(zw:cx.ty=find tab)(h:(tab.all λp=>JQ cx.P p.1 p.2)=true):bD cx:=by
 intro t ti ht;rw[zw]at ht;have ka:∀(l:List (Nat×TI)),find l t=some ti->(t,ti)∈l:=by
  intro l;induction l with
  |nil=>intro h;cases h
  |cons p l ih =>
   obtain⟨k,x⟩:=p;intro h;by_cases e:k=t
   .subst e;rw[bk]at h;cases h;exact .head _
   .rw[bl _ _ e]at h;exact .tail _ (ih h)
 have hc:=aI.1 h _ (ka tab ht);unfold JQ at hc;split at hc
 .rename_i info desc h1 h2;split at hc
  .rename_i z hz;simp only[aU,decide_eq_true_eq]at hc;obtain⟨⟨⟨c1,c2⟩,c3⟩,⟨c4,c5⟩,c6⟩:=hc;obtain⟨d1,d2⟩:=Cv c4;refine⟨info,desc,z,h1,h2,c1,bd c2,bd c3,hz,by simpa using d1,bd c5,λj c hj=>by simpa [List.getD] using d2 j c hj,?_⟩;cases ha:ti.kind.isAgg <;> rw[ha]at c6 <;> cases z <;> first|rfl|(cases c6;done)|exact⟨rfl,_,rfl⟩
  .simp at hc
 .cases hc
def rC(P:Program):Nat->List Field->List K->Bool
 |_,[],[]=>true
 |i,f::fs,k::ks=>Nat.beq f.offset i&&(f.name != "_")&&(match P.underlying f.type with|some d=>decide (kindOf d=k)|none=>false)&&rC P (i+1) fs ks
 |_,_,_=>false
theorem vG{P:Program}:∀{i:Nat} {fs:List Field} {ks:List K},rC P i fs ks=true->fs.length=ks.length/\ ∀(j:Nat) f k,fs[j]? =some f->ks[j]? =some k->f.offset=i+j/\f.name≠ "_" /\ ∃desc,P.underlying f.type=some desc/\kindOf desc=k
 |_,[],[],_=>⟨rfl,λj f k h=>by simp at h⟩
 |_,[],_::_,h=>by cases h
 |_,_::_,[],h=>by cases h
 |i,f::fs,k::ks,h=>by
  simp only[rC,aU,bne_iff_ne]at h;obtain⟨⟨⟨h1,h2⟩,h3⟩,h4⟩:=h;obtain⟨a1,a2⟩:=vG h4;refine⟨by simp[a1],λj g l hg hl=>?_⟩;cases j with
  |zero =>
   simp at hg hl;subst hg;subst hl;refine⟨by have:=bd h1;omega,h2,?_⟩;split at h3
   .rename_i d hd;exact⟨d,hd,of_decide_eq_true h3⟩
   .cases h3
  |succ j =>
   simp at hg hl;obtain⟨b1,b2⟩:=a2 j g l hg hl;exact⟨by omega,b2⟩
def Je(P:Program)(t:TypeId)(ks:List K):Bool :=
 match P.underlying t with
 |some (.struct fs)=>(P.stoodInHeld t==false)&&(P.eqGuardType P.depth t==false)&&rC P 0 fs.toList ks
 |_=>false
theorem Kx{P:Program}{tab:List (Nat×List K)}(h:(tab.all λp=>Je P p.1 p.2)=true):∀t ks,find tab t=some ks->yB P t ks:=by
 intro t ks ht;have ka:∀(l:List (Nat×List K)),find l t=some ks->(t,ks)∈l:=by
  intro l;induction l with
  |nil=>intro h;cases h
  |cons p l ih =>
   obtain⟨k,x⟩:=p;intro h;by_cases e:k=t
   .subst e;rw[bk]at h;cases h;exact .head _
   .rw[bl _ _ e]at h;exact .tail _ (ih h)
 have hc:=aI.1 h _ (ka tab ht);unfold Je at hc;split at hc
 .rename_i fs zb;simp only[aU,beq_iff_eq]at hc;obtain⟨⟨c1,c2⟩,c3⟩:=hc;obtain⟨d1,d2⟩:=vG c3;exact⟨fs,zb,c1,c2,d1,λi f k h1 h2=>by have:=d2 i f k h1 h2;rw[Nat.zero_add]at this;exact this⟩
 .cases hc
def xA(h:List (Nat×Blk)):AV->Bool
 | .own s=>(find h s).isSome
 | .ptr s _=>(find h s).isSome
 | .dm s _ _ _=>(find h s).isSome
 | .tl s _ _=>(find h s).isSome
 | .omap s=>(find h s).isSome
 | .d _=>true
 | .nil _=>true
 | .undef=>true
 |_=>false
def refs(h:List (Nat×Blk)):AV->Bool
 | .agg cs=>cs.all (xA h)
 | .tuple vs=>vs.all (xA h)
 | .fn _ a b=>a.all (xA h)&&b.all (xA h)
 |v=>xA h v
def RW(h:List (Nat×Blk)):Blk->Bool
 | .box cells=>cells.all (refs h)
 | .eF _ _ rows=>rows.all λr=>r.all (refs h)
 | .dJ m=>m.all λp=>refs h p.2
 |_=>true
def DQ(st:St)(h:List (Nat×Blk)):List (Nat×AV)->Prop
 |[]=>True
 |(t,v)::r=>(st.get t=v/\refs h v=true)/\DQ st h r
def pU(st:St)(h:List (Nat×Blk)):List (Nat×Blk)->Prop
 |[]=>True
 |(s,b)::r=>(find st.heap s=some b/\RW h b=true)/\pU st h r
section
variable {w:World} {O L:Nat->Prop} {σ:Nat->Value} {h:List (Nat×Blk)}
theorem fk(hL:∀s,live h s->L s){c:AV}{v:Value}(hr:aG w O L σ c v)(hf:xA h c=true):aG w O (live h) σ c v:=by
 have hk:bw w w (Own O L σ) (Own O (live h) σ):=bw.less λb hb=>by
  rcases hb with hb|⟨s,hs,e⟩
  .exact .inl hb
  .exact .inr ⟨s,hL s hs,e⟩
 cases hr with
 |undef=>exact .undef _
 |d x v hr=>exact .d _ _ (hr.mono hk)
 |nil=>exact .nil _
 |ptr s off b _ e=>exact .ptr s off b hf e
 |own s _=>exact .own s hf
 |dm s z i o b n c o0 _ e=>exact .dm s z i o b n c o0 hf e
 |tl s z i b n c o0 _ e=>exact .tl s z i b n c o0 hf e
 |omap s _=>exact .omap s hf
 |maybe=>cases hf
 |agg=>cases hf
 |tuple=>cases hf
 |fn=>cases hf
theorem kF(hL:∀s,live h s->L s){c:AV}{v:Value}(hr:aG w O L σ c v)(hf:refs h c=true):aG w O (live h) σ c v:=by
 cases hr with
 |agg cs vs hl hh=>exact .agg _ _ hl λj c hj=>fk hL (hh j c hj) (aI.1 hf c (aD hj))
 |tuple cs vs hl hh=>exact .tuple _ _ hl λj c hj=>fk hL (hh j c hj) (aI.1 hf c (aD hj))
 |fn f a b xs vs hx hl h1 h2 =>
  simp only[refs,aU]at hf;exact .fn _ _ _ _ _ hx hl (λj c hj=>fk hL (h1 j c hj) (aI.1 hf.1 c (aD hj))) (λj c hj=>fk hL (h2 j c hj) (aI.1 hf.2 c (aD hj)))
 |undef=>exact fk hL (.undef _) hf
 |d x v hr=>exact fk hL (.d x v hr) hf
 |nil z=>exact fk hL (.nil z) hf
 |ptr s off b l e=>exact fk hL (.ptr s off b l e) hf
 |own s l=>exact fk hL (.own s l) hf
 |dm s z i o b n c o0 l e=>exact fk hL (.dm s z i o b n c o0 l e) hf
 |tl s z i b n c o0 l e=>exact fk hL (.tl s z i b n c o0 l e) hf
 |omap s l=>exact fk hL (.omap s l) hf
 |maybe p b h=>exact fk hL (.maybe p b h) hf
end
theorem An{st:St}{h:List (Nat×Blk)}:∀{l:List (Nat×AV)},DQ st h l-> ∀t v,find l t=some v->st.get t=v/\refs h v=true
 |[],_,t,v,e=>by cases e
 |(k,x)::r,hk,t,v,e=>by
  by_cases hh:k=t
  .subst hh;rw[bk]at e;cases e;exact hk.1
  .rw[bl _ _ hh]at e;exact An hk.2 t v e
theorem iw{st:St}{h:List (Nat×Blk)}:∀{l:List (Nat×Blk)},pU st h l-> ∀t v,find l t=some v->find st.heap t=some v/\RW h v=true
 |[],_,t,v,e=>by cases e
 |(k,x)::r,hk,t,v,e=>by
  by_cases hh:k=t
  .subst hh;rw[bk]at e;cases e;exact hk.1
  .rw[bl _ _ hh]at e;exact iw hk.2 t v e
theorem aK.keep{cx:Cx}{st:St}{sl:List (Nat×AV)}{h:List (Nat×Blk)}(h1:DQ st h sl:=by repeat' (first|exact trivial|refine⟨⟨rfl,rfl⟩,?_⟩))(h2:pU st h h:=by repeat' (first|exact trivial|refine⟨⟨rfl,rfl⟩,?_⟩)):aK cx st ⟨sl,h⟩:=by
 rintro E a w ⟨σ,hs⟩;have hL:∀s,live h s->live st.heap s:=λs hl=>by
  obtain⟨b,hb⟩:=aH.1 hl;exact aH.2 ⟨b,(iw h2 s b hb).1⟩
 have hk:bw w w (Own E.O (live st.heap) σ) (Own E.O (live h) σ):=bw.less λb hb=>by
  rcases hb with hb|⟨s,hs,e⟩
  .exact .inl hb
  .exact .inr ⟨s,hL s hs,e⟩
 refine⟨σ,hs.frame,hs.new,hs.apart,hs.defers,hs.nt,λt=>?_,⟨λs b hb=>?_,λs s' b l l' e e' =>hs.holds.inj s s' b (hL s l) (hL s' l') e e'⟩,hs.fI,hs.dQ,λq0 B hB=>⟨(hs.fix q0 B hB).1,λh=>(hs.fix q0 B hB).2 (hL _ h)⟩⟩
 .show aG w E.O (live h) σ (St.get ⟨sl,h⟩ t) _
  unfold St.get;cases hf:find sl t with
  |none=>exact .undef _
  |some v =>
   obtain⟨e1,e2⟩:=An h1 t v hf;have:=hs.aV t;rw[e1]at this;exact kF hL this e2
 .obtain⟨e1,e2⟩:=iw h2 s b hb;have hold:=hs.holds.blk s b e1;cases b with
  |box cells =>
   obtain⟨g,cur,t,p1,p2,p3,p4,p5⟩:=hold;exact⟨g,cur,t,p1,p2,p3,p4,λj c hj=>⟨(p5 j c hj).1,kF hL (p5 j c hj).2 (aI.1 e2 c (aD hj))⟩⟩
  |row e size rows fl =>
   obtain⟨xs,p1,p2,p3,p4,p5⟩:=hold;refine⟨xs,p1,p2,p3,p4,λi r j d hi hj=>?_⟩;obtain⟨u,hu,hd⟩:=p5 i r j d hi hj;exact⟨u,hu,hd.mono hk⟩
  |smap m =>
   obtain⟨g,es,cl,p1,p2,p3,p4,p5⟩:=hold;refine⟨g,es,cl,p1,p2,p3,p4,λj k v hj=>?_⟩;obtain⟨e,he,q1,q2⟩:=p5 j k v hj;exact⟨e,he,q1.mono hk,q2.mono hk⟩
  |cY m=>obtain⟨g,es,cl,p1,p2,p3,p4⟩:=hold;exact⟨g,es,cl,p1,p2,p3,p4.mono λ_ _ h=>h.mono hk⟩
  |eF e size rows =>
   obtain⟨g,cur,t,p1,p2,p3,p4,p5⟩:=hold;exact⟨g,cur,t,p1,p2,p3,p4,λi r j c hi hj=>⟨(p5 i r j c hi hj).1,kF hL (p5 i r j c hi hj).2 (aI.1 (aI.1 e2 r (aD hi)) c (aD hj))⟩⟩
  |tail e size rows=>exact⟨hold.1.mono (λ_ _=>rfl) λ_ _ hr=>hr.mono hk,hold.2⟩
  |iter left cur=>exact⟨hold.1.mono (λ_ _=>rfl) hk,hold.2⟩
  |dJ m =>
   obtain⟨g,es,cl,p1,p2,p3,p4,p5⟩:=hold;exact⟨g,es,cl,p1,p2,p3,p4,λj k v hj=>by obtain⟨e,he,q1,q2⟩:=p5 j k v hj;exact⟨e,he,q1,kF hL q2 (aI.1 e2 _ (aD hj))⟩⟩
def rS(h:List (Nat×Blk)):AV->Bool
 | .tuple vs=>vs.all (refs h)
 |v=>refs h v
theorem wz{w:World}{O L:Nat->Prop}{σ:Nat->Value}{h:List (Nat×Blk)}(hL:∀s,live h s->L s){c:AV}{v:Value}(hr:aG w O L σ c v)(hf:rS h c=true):aG w O (live h) σ c v:=by
 cases c with
 |tuple vs=>cases hr with|tuple _ us hl hh=>exact .tuple _ _ hl λj c hj=>kF hL (hh j c hj) (aI.1 hf c (aD hj))
 |_=>exact kF hL hr hf
theorem aK.jV{cx:Cx}{st:St}(t s sz:Nat)(e:TypeId)(sz' :Nat)(h1:st.get t= .nil sz)(h2:find st.heap s=none)(h3:0<sz')(h4:Nat.blt s 100000=true:=by rfl):aK cx st ⟨(t,.own s)::st.aV,(s,.row e sz' [])::st.heap⟩:=by
 rintro E a w ⟨σ,hs⟩;have hn:¬live st.heap s:=by unfold live;rw[h2];simp
 let σ' :Nat->Value:=λx=>if x=s then .slice none 0 0 else σ x
 have e1:σ' s= .slice none 0 0:=if_pos rfl;have e2:∀x,live st.heap x->σ' x=σ x:=λx hl=>if_neg λ(e:x=s)=>hn (e ▸ hl)
 have hL:∀x,live ((s,Blk.row e sz' [])::st.heap) x ↔ x=s\/live st.heap x:=λx=>by
  have:=cJ (bs:=[(s,Blk.row e sz' [])]) (h:=st.heap) (s:=x);rw[cv]at this;exact this
 have hk:bw w w (Own E.O (live st.heap) σ) (Own E.O (live ((s,Blk.row e sz' [])::st.heap)) σ'):=bw.less λb hb=>by
  rcases hb with hb|⟨x,hl,hx⟩
  .exact .inl hb
  .rcases (hL x).1 hl with rfl|hl
   .rw[e1]at hx;cases hx
   .rw[e2 x hl]at hx;exact .inr ⟨x,hl,hx⟩
 have kk:∀x,live st.heap x->live ((s,Blk.row e sz' [])::st.heap) x/\σ' x=σ x:=λx hl=>⟨(hL x).2 (.inr hl),e2 x hl⟩
 refine⟨σ',hs.frame,hs.new,hs.apart,hs.defers,hs.nt,λq=>?_,⟨λx b hb=>?_,λx y b l l' f f' =>?_⟩,hs.fI,hs.dQ,λq0 B hB=>⟨(hs.fix q0 B hB).1,λh=>?_⟩⟩
 .show aG w E.O (live ((s,Blk.row e sz' [])::st.heap)) σ' (St.get ⟨(t,.own s)::st.aV,_⟩ q) _
  by_cases hq:t=q
  .subst hq;have hv:St.get ⟨(t,AV.own s)::st.aV,(s,Blk.row e sz' [])::st.heap⟩ t= .own s:=by simp[St.get,bk]
   rw[hv];have hr:=hs.aV t;rw[h1]at hr;have:a.tmps.getD t Go.undef=σ' s:=by rw[e1];generalize a.tmps.getD t Go.undef=u at hr;cases hr;rfl
   rw[this];exact .own s ((hL s).2 (.inl rfl))
  .have hv:St.get ⟨(t,AV.own s)::st.aV,(s,Blk.row e sz' [])::st.heap⟩ q=st.get q:=by simp[St.get,bl _ _ hq]
   rw[hv];exact(hs.aV q).mono hk kk
 .have hS :find ((s,Blk.row e sz' [])::st.heap) x=some b:=hb;rw[fu]at hS;split at hS
  .rename_i hx;subst hx;cases hS;exact⟨[],by rw[e1];exact World.ownsRow_nil w 0 e sz',(λb hb=>by rw[e1]at hb;cases hb),⟨h3,λe=>by cases e⟩,λr hr=>by simp at hr,λi r j d hi=>by simp at hi⟩
  .have hl:live st.heap x:=aH.2 ⟨b,hS⟩;exact(hs.holds.blk x b hS).mono hk kk hl λg _=>rfl
 .rcases (hL x).1 l with rfl|l
  .rw[e1]at f;cases f
  .rcases (hL y).1 l' with rfl|l'
   .rw[e1]at f';cases f'
   .rw[e2 x l]at f;rw[e2 y l']at f';exact hs.holds.inj x y b l l' f f'
 .rcases (hL _).1 h with e|h
  .have zn:=(hs.fix q0 B hB).1.2;have:s<100000:=Nat.lt_of_succ_le (bB h4);omega
  .rw[e2 _ h];exact(hs.fix q0 B hB).2 h
theorem dU{n:Nat}{p:Nat->Bool}:(List.range (n+1)).all p=((List.range n).all p&&p n):=by simp[List.range_succ]
theorem eu{n k:Nat}{p:Nat->Bool}(hk:k<n)(h:p k=false):(List.range n).all p=false:=by
 rw[List.all_eq_false];exact⟨k,List.mem_range.2 hk,by simp[h]⟩
theorem wrap_i64{n:Int}(h1: -9223372036854775808<=n)(h2:n<=9223372036854775807):IntKind.i64.wrap n=n:=by
 simp[IntKind.wrap,IntKind.signed,IntKind.bits];omega
theorem eY{cx:Cx}{f:FuncId}{args:List D}{v:AV}(hc:gq cx.P f)(hf:KC v=true)
 (h:∀(w:World) (vs:Array Value),jC cx w->vs.size=args.length->(∀(j:Nat) d,args[j]? =some d->Rep w (λ_=>False) d (vs.getD j Go.undef)) ->
  Calls cx.P f vs w λe w' => ∃u,e= .returned u/\Below w.heap.size w w' /\aG w' (λ_=>False) (live []) (λ_=> .nilFunc) v u):Fn cx f args v []:=by
 refine⟨hc,λO w vs _ hG _ hN ki=>?_⟩;refine(h w vs hG hN λj d hj=>(ki j d hj).mono (bw.less λb hb=>hb.elim)).mono ?_;rintro e w' ⟨u,he,hb,hr⟩;exact⟨u,λ_=> .nilFunc,he,hb,⟨λs b hs=>by simp[find]at hs,λs s' b hs=>by simp[live,find]at hs⟩,CJ hr hf⟩
theorem fY{w:World}{O:Nat->Prop}{s:List UInt8}{v:Value}(h:Rep w O (.str s) v):∃b:ByteArray,v= .string b/\b.data.toList=s:=by
 cases h with|str s b h=>exact⟨b,rfl,h⟩
theorem xB{w:World}{O:Nat->Prop}{k:IntKind}{n:Int}{v:Value}(h:Rep w O (.int k n) v):v= .int k n:=by cases h;rfl
theorem QR{w:World}{O:Nat->Prop}{b:Bool}{v:Value}(h:Rep w O (.bool b) v):v= .bool b:=by cases h;rfl
theorem uS{vs:Array Value}(h:vs.size=1):vs= #[vs.getD 0 Go.undef]:=by
 apply Array.ext
 .simp[h]
 .intro i h1 h2;simp at h2;subst h2;simp[h]
theorem xJ{vs:Array Value}(h:vs.size=2):vs= #[vs.getD 0 Go.undef,vs.getD 1 Go.undef]:=by
 apply Array.ext
 .simp[h]
 .intro i h1 h2;simp at h2;rcases i with _|_|i
  .simp[h]
  .simp[h]
  .omega
theorem Sc{vs:Array Value}(h:vs.size=3):vs= #[vs.getD 0 Go.undef,vs.getD 1 Go.undef,vs.getD 2 Go.undef]:=by
 apply Array.ext
 .simp[h]
 .intro i h1 h2;simp at h2;rcases i with _|_|_|i
  .simp[h]
  .simp[h]
  .simp[h]
  .omega
theorem aM{α:Type}{f:α->List D}{l:List α}{k:Nat}{g:α}(h:l[k]? =some g):(l.map f)[((k:Nat):Int).toNat]? =some (f g):=by simp[h]
theorem mY{k:Nat}(h:decide ((k:Int)>0)=true)(hk:k<=4611686018427387904):0<=IntKind.i64.wrap ((k:Int)-1)/\(IntKind.i64.wrap ((k:Int)-1)).toNat=k-1:=by
 simp at h;rw[wrap_i64 (by omega) (by omega)];omega
theorem lP{α:Type}{f:α->List D}{l:List α}{k:Nat}{g:α}(h:decide ((k:Int)>0)=true)(hk:k<=4611686018427387904)(hg:l[k-1]? =some g):(l.map f)[(IntKind.i64.wrap ((k:Int)-1)).toNat]? =some (f g):=by
 rw[(mY h hk).2];simp[hg]
theorem ax{k:Nat}(hk:k<=4611686018427387904):AV.d (D.int .i64 (IntKind.i64.wrap ((k:Int)+1)))=AV.d (D.int .i64 ((k+1:Nat):Int)):=by
 rw[wrap_i64 (by omega) (by omega)];rfl
def jY:Nat->List AV->List (Nat×AV)
 |_,[]=>[]
 |i,x::t=>(i,x)::jY (i+1) t
theorem oo:∀(i:Nat) (l:List AV) (t:Nat),find (jY i l) t=if i<=t then l[t-i]? else none
 |i,[],t=>by simp[jY,find]
 |i,x::l,t=>by
  unfold jY;by_cases e:i=t
  .subst e;rw[bk,if_pos (Nat.le_refl _),Nat.sub_self];rfl
  .rw[bl _ _ e,oo (i+1) l t];by_cases h:i<=t
   .rw[if_pos h,if_pos (by omega)];obtain⟨u,hu⟩:∃u,t-i=u+1:=⟨t-i-1,by omega⟩
    rw[hu,List.getElem?_cons_succ]
    congr 1;omega
   .rw[if_neg h,if_neg (by omega)]
theorem TX{cx cx' :Cx}(h1:cx'.P=cx.P)(h2:cx'.gl=cx.gl){f:FuncId}{eB:Bool}{e:TypeId}{sz:Nat}{rows:List (List D)}{fl:Bool}{args:List D}{rows' :List (List D)}(h:FnR cx f eB e sz rows fl args rows'):FnR cx' f eB e sz rows fl args rows' :=by
 unfold FnR gq jC at *
 rw[h1,h2];exact h
def dR(w:World)(O:Nat->Prop)(sz:Nat)(rows:List (List D))(xs:List Value):Prop :=
 ∀i r j d,rows[i]? =some r->r[j]? =some d-> ∃u,xs[i*sz+j]? =some u/\Rep w O d u
def fy(sz:Nat)(rows:List (List D)):Prop:= ∀r∈rows,r.length=sz/\ ∀d∈r,d.one=true
section
variable {w:World} {O:Nat->Prop} {sz:Nat} {rows aW:List (List D)} {xs ys:List Value}
theorem dR.take(h:dR w O sz rows xs)(hr:fy sz rows)(n:Nat):dR w O sz (rows.take n) (xs.take (n*sz)):=λi r j d hi hj=>by
 rw[List.getElem?_take]at hi;split at hi
 .rename_i hM;obtain⟨u,hu,hd⟩:=h i r j d hi hj;refine⟨u,?_,hd⟩;have zI :j<sz:=by rw[<- (hr r (aD hi)).1];exact(aB.1 hj).1
  have:(i+1)*sz<=n*sz:=Nat.mul_le_mul_right _ hM;rw[Nat.add_mul]at this;rw[List.getElem?_take,if_pos (by omega)];exact hu
 .cases hi
theorem dR.drop(h:dR w O sz rows xs)(n:Nat):dR w O sz (rows.drop n) (xs.drop (n*sz)):=λi r j d hi hj=>by
 rw[List.getElem?_drop]at hi;obtain⟨u,hu,hd⟩:=h _ r j d hi hj;refine⟨u,?_,hd⟩;rw[List.getElem?_drop, <- hu,Nat.add_mul,Nat.add_assoc]
theorem dR.append(h:dR w O sz rows xs)(h2:dR w O sz aW ys)(hx:xs.length=rows.length*sz):dR w O sz (rows++aW) (xs++ys):=λi r j d hi hj=>mM hx (bw.refl w O) h h2 i r j d hi hj
theorem fy.take(h:fy sz rows)(n:Nat):fy sz (rows.take n):=λr hr=>h r (List.mem_of_mem_take hr)
theorem fy.drop(h:fy sz rows)(n:Nat):fy sz (rows.drop n):=λr hr=>h r (List.mem_of_mem_drop hr)
theorem fy.append(h:fy sz rows)(h2:fy sz aW):fy sz (rows++aW):=λr hr=>by
 rcases List.mem_append.1 hr with hr|hr
 .exact h r hr
 .exact h2 r hr
theorem dR.one(h:dR w O sz rows xs)(hr:fy sz rows)(hN:0<sz)(hx:xs.length=rows.length*sz):∀u∈xs,u.oneCell' =true:=λu hu=>by
 obtain⟨q,hq,rfl⟩:=List.getElem_of_mem hu;have h1:q / sz<rows.length:=Nat.div_lt_of_lt_mul (by rw[Nat.mul_comm];omega);have h3:=hr _ (List.getElem_mem h1);have h4:q % sz<(rows[q / sz]).length:=by rw[h3.1];exact Nat.mod_lt _ hN
 obtain⟨z,hz,hd⟩:=h _ _ _ _ (au h1) (au h4);rw[show q / sz*sz+q % sz=q by rw[Nat.mul_comm];exact Nat.div_add_mod q sz,au hq]at hz;cases hz;exact hd.jd (h3.2 _ (List.getElem_mem h4))
end
theorem pO{cx:Cx}{w:World}{O:Nat->Prop}(hT:bD cx){t e ty:TypeId}{ei:TI}(kK:cB cx t=some (e,ei))(hN:1<=ei.size){aW:List (List D)}{u v:Value}(hr:Rep w O (.slice ei.size aW) u)
 {n:Nat} {xs:List Value} (kr:w.ownsRow 0 e ei.size v n xs) (yu:n+aW.length<=maxLen) (xT:(n+aW.length)*ei.bytes<=140737488355328) :
 ∃v' w' news,(Builtin.append_ #[t,t] ty #[v,u]).run cx.P w= .ok v' w' /\w'.ownsRow 0 e ei.size v' (n+aW.length) (xs++news)/\w.grownBy w' v.ownBlock/\(∀g,home v' =some g->home v=some g\/w.heap.size<=g) /\
  (∀r∈aW,r.length=ei.size/\ ∀d∈r,d.one=true)/\ ∀i r j d,aW[i]? =some r->r[j]? =some d-> ∃z,news[i*ei.size+j]? =some z/\Rep w O d z:=by
 obtain⟨ti,ht,xb,kC⟩:=cC kK;obtain⟨_,_,_,_,t2,t3,_⟩:=hT _ _ ht;rw[xb]at t3;obtain rfl:=bZ t3;obtain⟨info,desc,zv,i1,i2,i3,i4,i5,i6,i7,i8,i9,i10⟩:=hT _ _ kC
 obtain ⟨ad, c, rfl, p1, p2⟩ : ∃ ad c, u = .slice ad aW.length c /\ (∀ r ∈ aW, r.length = ei.size /\ ∀ d ∈ r, d.one = true) /\
     (aW≠[]-> ∃B off,ad=some ⟨B,off,none⟩/\ ∀i r j d,aW[i]? =some r->r[j]? =some d-> ∃v,w.cell? ⟨B,off+(i*ei.size+j),none⟩=some v/\Rep w O d v):=by
  cases hr with
  |empty=>exact⟨_,_,rfl,λr hr=>by simp at hr,λkf=>absurd rfl kf⟩
  |slice _ _ B off n cap us hn hO hB hc hl h1 h2 =>
   subst hn;exact⟨_,_,rfl,hl,λ_=>⟨B,off,rfl,λi r j d hi hj=>⟨us i j,by rw[<- Nat.add_assoc];exact h1 i r j d hi hj,h2 i r j d hi hj⟩⟩⟩
 by_cases kf:aW=[]
 .subst kf;have hv:∃base cap,v= .slice base n cap/\n<=cap:=by
   rcases kr.2 with ⟨rfl,rfl⟩|⟨g,cap,cur,rfl,_,_,h,_⟩
   .exact⟨none,0,rfl,Nat.le_refl _⟩
   .exact⟨_,cap,rfl,h⟩
  obtain⟨base,cap,rfl,yH⟩:=hv;refine⟨_,w,[],ng cx.P w t2 i1 yH ad c,by simpa using kr,⟨rfl,rfl,rfl,Nat.le_refl _,λ_ _ _=>rfl⟩,λg hg=> .inl hg,p1,λi r j d hi=>by simp at hi⟩
 .obtain⟨B,off,rfl,p3⟩:=p2 kf
  let f:Nat->Value:=λq=>(w.cell? ⟨B,off+q,none⟩).getD Go.undef
  have hq:∀q,q<aW.length*ei.size-> ∃r d,aW[q / ei.size]? =some r/\r[q % ei.size]? =some d/\d.one=true:=λq hq=>by
   have h1:q / ei.size<aW.length:=Nat.div_lt_of_lt_mul (by rw[Nat.mul_comm];exact hq);have h2:=au h1;have h3:=p1 _ (List.getElem_mem h1);have h4:q % ei.size<(aW[q / ei.size]).length:=by rw[h3.1];exact Nat.mod_lt _ hN
   exact⟨_,_,h2,au h4,h3.2 _ (List.getElem_mem h4)⟩
  have yT:∀q,q / ei.size*ei.size+q % ei.size=q:=λq=>by rw[Nat.mul_comm];exact Nat.div_add_mod q ei.size
  have km:∀q,q<aW.length*ei.size->w.cell? ⟨B,off+q,none⟩=some (f q)/\(f q).oneCell' =true:=λq hM=>by
   obtain⟨r,d,h1,h2,h3⟩:=hq q hM;obtain⟨z,hz,hd⟩:=p3 _ r _ d h1 h2;rw[yT]at hz;have:f q=z:=by simp[f,hz]
   rw[this];exact⟨hz,hd.jd h3⟩
  have xl:((List.range (aW.length*ei.size)).map f).length=aW.length*ei.size:=by simp
  have kn:∀j u,((List.range (aW.length*ei.size)).map f)[j]? =some u->w.cell? ((⟨B,off,none⟩:Addr).add j)=some u:=λj u hj=>by
   have hM:j<aW.length*ei.size:=by have:=(aB.1 hj).1;simpa using this
   rw[de];have:f j=u:=by simpa [hM] using hj
   rw[<- this];exact(km j hM).1
  have kh:∀u∈(List.range (aW.length*ei.size)).map f,u.oneCell' =true:=λu hu=>by
   obtain⟨q,hq,rfl⟩:=List.mem_map.1 hu;exact(km q (by simpa using hq)).2
  obtain⟨v',w',r1,r2,r3,_⟩:=run_append_own (P:=cx.P) w 0 t ty e info zv ei.size ei.bytes t2 i1 i6 i4 i5 (by rw[i7, <- i8]) hN v n xs kr ⟨B,off,none⟩ aW.length c _ xl kn kh yu xT (Nat.zero_le _);have kQ:0<aW.length:=List.length_pos_iff.2 kf;refine⟨v',w',_,r1,r2,r3,λg hg=>?_,p1,λi r j d hi hj=>?_⟩
  .have zk:n+aW.length<=9223372036854775807:=by simpa [maxLen] using yu
   rcases kr.2 with ⟨rfl,rfl⟩|⟨g0,cap,cur,rfl,_,zd,yH,_,yv,_⟩
   .have:=run_append_nil (P:=cx.P) w t ty e info zv t2 i1 i6 ⟨B,off,none⟩ aW.length c _ (by rw[i4];exact xl) kn kQ (by omega) (by rw[i5];rw[Nat.zero_add]at xT;omega);rw[this]at r1;cases r1;cases hg;exact .inr (Nat.le_refl _)
   .by_cases xc:n+aW.length<=cap
    .have:=run_append_room (P:=cx.P) w t ty e info t2 i1 g0 n cap cur zd ⟨B,off,none⟩ aW.length c _ (by rw[i4];exact xl) kn kh xc (by rw[xl,yv,i4, <- Nat.add_mul];exact Nat.mul_le_mul_right _ xc);rw[this]at r1;cases r1;exact .inl hg
    .have:=run_append_grow (P:=cx.P) w t ty e info zv t2 i1 i6 ⟨g0,0,none⟩ n cap xs (by rw[i4];exact kr.1) (kr.cells (g:=g0) rfl) ⟨B,off,none⟩ aW.length c _ (by rw[i4];exact xl) kn (by omega) (by omega) (by rw[i5];exact growslice_fits (by omega) xT);rw[this]at r1;cases r1;cases hg;exact .inr (Nat.le_refl _)
  .obtain⟨z,hz,hd⟩:=p3 i r j d hi hj;have hM:i*ei.size+j<aW.length*ei.size:=by
    have h1:=(aB.1 hi).1;have h2:=(aB.1 hj).1;rw[(p1 r (aD hi)).1]at h2;have:(i+1)*ei.size<=aW.length*ei.size:=Nat.mul_le_mul_right _ h1;rw[Nat.add_mul]at this;omega
   refine⟨z,?_,hd⟩;have:f (i*ei.size+j)=z:=by simp[f,hz]
   simp[hM,this]
theorem aK.jw{cx:Cx}{st:St}(k j s sz:Nat)(cells:List AV)(e:TypeId)(sz' :Nat)(xt:find st.heap k=some (.box cells))(yD:cells[j]? =some (.nil sz))(h2:find st.heap s=none)(h3:0<sz')(h4:Nat.blt s 100000=true:=by rfl) :
 aK cx st ⟨st.aV,(s,.row e sz' [])::(k,.box (cells.set j (.own s)))::st.heap⟩:=by
 rintro E a w ⟨σ,hs⟩;have hn:¬live st.heap s:=by unfold live;rw[h2];simp
 have zJ:k≠s:=λe=>by rw[e,h2]at xt;cases xt
 let σ' :Nat->Value:=λx=>if x=s then .slice none 0 0 else σ x
 have e1:σ' s= .slice none 0 0:=if_pos rfl;have e2:∀x,live st.heap x->σ' x=σ x:=λx hl=>if_neg λ(e:x=s)=>hn (e ▸ hl)
 have hL:∀x,live ((s,Blk.row e sz' [])::(k,Blk.box (cells.set j (.own s)))::st.heap) x ↔ x=s\/live st.heap x:=λx=>by
  have:=cJ (bs:=[(s,Blk.row e sz' [])]) (h:=(k,Blk.box (cells.set j (.own s)))::st.heap) (s:=x);rw[cv]at this;refine this.trans (or_congr_right ?_);have:=cJ (bs:=[(k,Blk.box (cells.set j (.own s)))]) (h:=st.heap) (s:=x);rw[cv]at this;refine this.trans ⟨λh=>?_,.inr⟩;rcases h with rfl|h
  .exact aH.2 ⟨_,xt⟩
  .exact h
 have hk:bw w w (Own E.O (live st.heap) σ) (Own E.O (live ((s,Blk.row e sz' [])::(k,Blk.box (cells.set j (.own s)))::st.heap)) σ'):=bw.less λb hb=>by
  rcases hb with hb|⟨x,hl,hx⟩
  .exact .inl hb
  .rcases (hL x).1 hl with rfl|hl
   .rw[e1]at hx;cases hx
   .rw[e2 x hl]at hx;exact .inr ⟨x,hl,hx⟩
 have kk:∀x,live st.heap x->live ((s,Blk.row e sz' [])::(k,Blk.box (cells.set j (.own s)))::st.heap) x/\σ' x=σ x:=λx hl=>⟨(hL x).2 (.inr hl),e2 x hl⟩
 refine⟨σ',hs.frame,hs.new,hs.apart,hs.defers,hs.nt,λq=>(hs.aV q).mono hk kk,⟨λx b hb=>?_,λx y b l l' f f' =>?_⟩,hs.fI,hs.dQ,λq0 B hB=>⟨(hs.fix q0 B hB).1,λh=>?_⟩⟩
 .have hS :find ((s,Blk.row e sz' [])::(k,Blk.box (cells.set j (.own s)))::st.heap) x=some b:=hb;rw[fu]at hS;split at hS
  .rename_i hx;subst hx;cases hS;exact⟨[],by rw[e1];exact World.ownsRow_nil w 0 e sz',(λb hb=>by rw[e1]at hb;cases hb),⟨h3,λe=>by cases e⟩,λr hr=>by simp at hr,λi r j d hi=>by simp at hi⟩
  .rw[fu]at hS;split at hS
   .rename_i hx;subst hx;cases hS;have hl:live st.heap k:=aH.2 ⟨_,xt⟩;have hold:cZ w E.F E.O (live st.heap) σ k (.box cells):=hs.holds.blk k _ xt;have kP:cZ w E.F E.O _ σ' k (.box cells):=hold.mono hk kk hl λg _=>rfl
    obtain⟨b,cur,t,k1,k2,k3,k4,k5⟩:=kP;refine⟨b,cur,t,k1,k2,k3,by rw[List.length_set];exact k4,λi c hi=>?_⟩;by_cases yC:j=i
    .subst yC;have hM:j<cells.length:=(aB.1 yD).1;rw[List.getElem?_set_self hM]at hi;cases hi;refine⟨.inl rfl,?_⟩;have hr:=(k5 j _ yD).2;have:cur.getD j Go.undef=σ' s:=by rw[e1];generalize cur.getD j Go.undef=u at hr;cases hr;rfl
     rw[this];exact .own s ((hL s).2 (.inl rfl))
    .rw[List.getElem?_set_ne yC]at hi;exact k5 i c hi
   .have hl:live st.heap x:=aH.2 ⟨b,hS⟩;exact(hs.holds.blk x b hS).mono hk kk hl λg _=>rfl
 .rcases (hL x).1 l with rfl|l
  .rw[e1]at f;cases f
  .rcases (hL y).1 l' with rfl|l'
   .rw[e1]at f';cases f'
   .rw[e2 x l]at f;rw[e2 y l']at f';exact hs.holds.inj x y b l l' f f'
 .rcases (hL _).1 h with e|h
  .have zn:=(hs.fix q0 B hB).1.2;have:s<100000:=Nat.lt_of_succ_le (bB h4);omega
  .rw[e2 _ h];exact(hs.fix q0 B hB).2 h
def TC(pv:Int->Value)(F O:Nat->Prop)(h:List (Nat×Blk))(σ:Nat->Value)(w' :World)(en:Ending):Option (AV×List (Nat×Blk))->Prop
 |some (x,h')=> ∃u σ',en= .returned u/\Holds w' F O h' σ' /\(∀s∈cS h,live h' s->σ' s=σ s)/\aG w' O (live h') σ' x u
 |none=> ∃e:Int,e≠0/\en= .panicked [{v:=pv e,recovered:=false}]
def FnP(cx:Cx)(pv:Int->Value)(f:FuncId)(args:List AV)(h:List (Nat×Blk))(out:Option (AV×List (Nat×Blk))):Prop :=
 gq cx.P f/\ ∀(O:Nat->Prop) (w:World) (σ:Nat->Value) (vs:Array Value),(∀b,O b->b<w.heap.size)->jC cx w->(∀g cells,cx.gl g=some cells-> ¬O g/\ ¬dM h σ g)->(∀b,O b-> ¬dM h σ b) ->
  Holds w (dM h σ) O h σ->vs.size=args.length->(∀(j:Nat) c,args[j]? =some c->aG w O (live h) σ c (vs.getD j Go.undef)) ->
  Calls cx.P f vs w λen w' =>sO (λb=>dM h σ b\/w.heap.size<=b) w w' /\TC pv (λb=>dM h σ b\/w.heap.size<=b) O h σ w' en out
def AK(cx:Cx)(pv:Int->Value)(st:St)(f:AV)(args:List AV)(Qp:St->Prop)(k:AV->St->Prop):Prop :=
 match callee f with
 | some (g, a, b) => ∃ (fr : List Nat) (out : Option (AV × List (Nat × Blk))), FnP cx pv g (a ++ args ++ b) (dP fr st.heap) out /\
     ((a++args++b).all (gQ ((dP fr st.heap).map (·.1)))=true/\(dP fr st.heap).all (λp=>BD ((dP fr st.heap).map (·.1)) p.2)=true/\(cw fr st.heap).all (λp=>vm ((match out with|some _=>cS (dP fr st.heap)|none=>[])++(cw fr st.heap).map (·.1)) p.2)=true) /\
     match out with
     |some (x,h')=>((cS (dP fr st.heap)).all (λs=>(find h' s).isSome)=true/\(h'.map (·.1)).all (λs=>(Nat.blt s 100000||eJ (cS (dP fr st.heap)) s)&& !eJ fr s)=true)/\k x ⟨rI (cS (dP fr st.heap)++(cw fr st.heap).map (·.1)) st.aV,cw fr st.heap++h'⟩
     |none=>Qp ⟨rI ((cw fr st.heap).map (·.1)) st.aV,cw fr st.heap⟩
 |none=>False
theorem mK{p:Nat×Blk}:∀(l:List (Nat×Blk)),p∈l->live l p.1
 |[],h=>by cases h
 |q::t,hm=>by
  by_cases e:q.1=p.1
  .exact aH.2 ⟨q.2,by rw[<- e];exact bk ..⟩
  .rcases List.mem_cons.1 hm with rfl|hm
   .exact absurd rfl e
   .obtain⟨b,hb⟩:=aH.1 (mK t hm);exact aH.2 ⟨b,by rw[show q=(q.1,q.2)from rfl,bl _ _ e];exact hb⟩
def pG:Nat->List AV->List AV
 |_,[]=>[]
 |0,_::t=> .undef::pG 0 t
 |n+1,c::t=>(match c with| .d x=> .d x|_=> .undef)::pG n t
def Qw:AV->AV
 | .agg cs=> .agg (pG 7 cs)
 |v=>v
def Qy:AV->AV
 | .ptr _ _=> .undef
 |v=>v
theorem Qz{w:World}{O L:Nat->Prop}{σ:Nat->Value}{v:AV}{u:Value}(h:aG w O L σ v u):aG w O L σ (Qy v) u:=by
 cases h with
 |ptr=>exact .undef _
 |undef=>exact .undef _
 |d x v h=>exact .d _ _ h
 |nil=>exact .nil _
 |own s hL=>exact .own s hL
 |dm s size i off b n cap o0 hL h=>exact .dm s size i off b n cap o0 hL h
 |tl s size i b n cap o0 hL h=>exact .tl s size i b n cap o0 hL h
 |omap s hL=>exact .omap s hL
 |maybe p b h=>exact .maybe p b h
 |agg cs vs hl h=>exact .agg cs vs hl h
 |tuple cs vs hl h=>exact .tuple cs vs hl h
 |fn f first xQ xs vs hx hl h1 h2=>exact .fn f first xQ xs vs hx hl h1 h2
theorem ze:∀(n:Nat) (cs:List AV) (j:Nat) (c:AV),(pG n cs)[j]? =some c->c= .undef\/cs[j]? =some c
 |_,[],_,_,h=>by simp[pG]at h
 |0,x::t,0,c,h=>by simp[pG]at h;exact .inl h.symm
 |0,x::t,j+1,c,h=>by simp[pG]at h;simpa using ze 0 t j c h
 |n+1,x::t,0,c,h=>by
  simp only[pG,List.getElem?_cons_zero,Option.some.injEq]at h;cases x <;> simp at h <;> first|exact .inl h.symm|exact .inr (by simp[h])
 |n+1,x::t,j+1,c,h=>by simp[pG]at h;simpa using ze n t j c h
theorem zf:∀(n:Nat) (cs:List AV),(pG n cs).length=cs.length
 |_,[]=>rfl
 |0,x::t=>by simp[pG,zf 0 t]
 |n+1,x::t=>by simp[pG,zf n t]
theorem Qx{w:World}{O L:Nat->Prop}{σ:Nat->Value}{v:AV}{u:Value}(h:aG w O L σ v u):aG w O L σ (Qw v) u:=by
 cases h with
 |agg cs vs hl h =>
  refine .agg _ _ (hl.trans (zf 7 cs).symm) λj c hj=>?_
  rcases ze 7 cs j c hj with rfl|hc
  .exact .undef _
  .exact h j c hc
 |_=>constructor <;> assumption
theorem Gi{cx:Cx}{pv:Int->Value}{st:St}{o:Oper}{c:Call}{f:Operand}{Qp:St->Prop}{k:AV->St->Prop}(ho:o.op= .call c)(hc:c.callee= .value f){as:List AV}(has:∃m:AV->AV,(∀(w:World) (O L:Nat->Prop) (σ:Nat->Value) v u,aG w O L σ v u->aG w O L σ (m v) u)/\as=(cz cx st c.args.toList c.argTypes.toList).map m)(h:AK cx pv st (st.ev cx f) as Qp k)
 {E:Env} {a:Act} {w:World} {K:Act->World->Prop} {Q:Exit->Act->World->Prop} (hd:∀e,o.dst=some e->e<E.nt) (kj:Sim cx E st a w)
 (hK:∀v st1 a' w',k v st1->Sim cx E ⟨bF st1.aV o.dst v,st1.heap⟩ a' w' ->K a' w')
 (hQ:∀(st1:St) w' (e:Int),e≠0->Qp st1->Sim cx E st1 a w' ->Q (.panic [{v:=pv e,recovered:=false}]) a w'):o.wp cx.P a w K Q:=by
 unfold AK at h;split at h
 case h_2=>exact h.elim
 rename_i g xs ys hg;obtain⟨fr,out,yQ,⟨c4,c5,c6⟩,hk⟩:=h;obtain⟨σ,hs⟩:=kj;obtain⟨us,vs,hu,s1,s2,r1,r2⟩:=nD hg (hs.ev (St.le.refl st) f);obtain⟨l1,l2⟩:as.length=c.args.toList.length/\ ∀(j:Nat) cc,as[j]? =some cc-> ∃x,c.args.toList[j]? =some x/\aG w E.O (live st.heap) σ cc (a.eval x):=by
  obtain⟨l1,l2⟩:=iB (St.le.refl st) hs c.args.toList c.argTypes.toList;obtain⟨m,hm,rfl⟩:=has;refine⟨by rw[aA];exact l1,λj cc hj=>?_⟩;rw[bc]at hj;cases hx:(cz cx st c.args.toList c.argTypes.toList)[j]? with
  |none=>rw[hx]at hj;cases hj
  |some c0 =>
   rw[hx]at hj;cases hj;obtain⟨x,h1,h2⟩:=l2 j c0 hx;exact⟨x,h1,hm _ _ _ _ _ _ h2⟩
 obtain⟨⟨fn,yX,yY,yw⟩,xu⟩:=yQ;have xZ :¬fn.name= "runtime.NumGoroutine" :=by simpa using yY
 have ya :¬fn.body=none:=by intro e;rw[e]at yw;cases yw
 have yk:(execOp a.eval o).run cx.P w= .ok (.enter g (us++c.args.map a.eval++vs)) w:=by
  simp[execOp,ho,resolve,hc,hu,Deferred.ofValue,invoke,callFunc,yX,xZ,ya]
 have hW:=nX (R:=aG w E.O (live st.heap) σ) (A:=xs) (B:=as) (C:=ys) (ys:=c.args.map a.eval) s1 (by simp[l1]) r1 (λj cc hj=>by
  obtain⟨x,hx,hr⟩:=l2 j cc hj;have:(c.args.map a.eval).getD j Go.undef=a.eval x:=by rw[bx]at hx;simp[hx]
  rw[this];exact hr) r2
 have hN:(us++c.args.map a.eval++vs).size=(xs++as++ys).length:=by simp[s1,s2,l1]
 have kJ:∀s,live (dP fr st.heap) s ↔ live st.heap s/\eJ fr s=false:=λs=>by
  unfold live;rw[pb];cases eJ fr s <;> simp
 have kp:∀s,live (cw fr st.heap) s ↔ live st.heap s/\eJ fr s=true:=λs=>by
  unfold live;rw[np];cases eJ fr s <;> simp
 obtain⟨O',kW⟩:∃O' :Nat->Prop,O' =λb=>E.O b\/dM (cw fr st.heap) σ b:=⟨_,rfl⟩
 have kM:∀b,dM (cw fr st.heap) σ b->E.F b/\b<w.heap.size:=λb ⟨s,hl,e⟩=>hs.holds.home ((kp s).1 hl).1 e
 have xj:∀b,dM (dP fr st.heap) σ b->E.F b/\b<w.heap.size:=λb ⟨s,hl,e⟩=>hs.holds.home ((kJ s).1 hl).1 e
 have kL:∀b,dM (cw fr st.heap) σ b-> ¬dM (dP fr st.heap) σ b:=λb ⟨s,hl,e⟩ ⟨s',kq,e'⟩=>by
  have:=hs.holds.inj s s' b ((kp s).1 hl).1 ((kJ s').1 kq).1 e e';subst this;have h1:=((kp s).1 hl).2;rw[((kJ s).1 kq).2]at h1;cases h1
 have ku:∀b,Own O' (live (dP fr st.heap)) σ b ↔ Own E.O (live st.heap) σ b:=λb=>by
  rw[kW];constructor
  .rintro((hb|⟨s,hl,e⟩)|⟨s,hl,e⟩)
   .exact .inl hb
   .exact .inr ⟨s,((kp s).1 hl).1,e⟩
   .exact .inr ⟨s,((kJ s).1 hl).1,e⟩
  .rintro(hb|⟨s,hl,e⟩)
   .exact .inl (.inl hb)
   .cases hf:eJ fr s with
    |true=>exact .inl (.inr ⟨s,(kp s).2 ⟨hl,hf⟩,e⟩)
    |false=>exact .inr ⟨s,(kJ s).2 ⟨hl,hf⟩,e⟩
 have yF:bw w w (Own E.O (live st.heap) σ) (Own O' (live (dP fr st.heap)) σ):=bw.less λb hb=>(ku b).1 hb
 have xz:∀s∈(dP fr st.heap).map (·.1),live (dP fr st.heap) s:=λs hm=>by
  obtain⟨p,hp,rfl⟩:=List.mem_map.1 hm;exact mK _ hp
 have xf := xu O' w σ (us ++ c.args.map a.eval ++ vs) (fun b hb => by
     rw[kW]at hb;rcases hb with hb|hb
     .exact hs.pX b (.inl hb)
     .exact(kM b hb).2) hs.nJ (λg cells zg=>by
     obtain⟨g1,g2⟩:=hs.dQ g cells zg;refine⟨λhg=>?_,λhg=>g1 (xj g hg).1⟩;rw[kW]at hg;rcases hg with hg|hg
     .exact g2 hg
     .exact g1 (kM g hg).1)
  (λb hb hH=>by
   rw[kW]at hb;rcases hb with hb|hb
   .exact hs.apart b hb (xj b hH).1
   .exact kL b hb hH) ⟨λs b hb=>by
    have hS :find st.heap s=some b:=by
     rw[pb]at hb;split at hb
     .cases hb
     .exact hb
    have hm:=aI.1 c5 _ (fh hb);exact((Cu (hs.holds.blk s b hS) hm xz yF)).inF λg hg=>⟨s,aH.2 ⟨b,hb⟩,hg⟩,λs s' b hl kq =>hs.holds.inj s s' b ((kJ s).1 hl).1 ((kJ s').1 kq).1⟩ hN
  (λj cc hj=>nF (hW j cc hj) (aI.1 c4 cc (aD hj)) xz yF)
 simp only[Oper.wp,yk,Oper.upon];refine xf.mono λen w' =>?_
 rintro⟨hU,xD⟩;have hF:∀b,(dM (dP fr st.heap) σ b\/w.heap.size<=b)->E.F b:=λb hb=>by
  rcases hb with hb|hb
  .exact(xj b hb).1
  .exact hs.new b (Nat.le_trans hs.frame.size hb)
 cases out with
 |none =>
  obtain⟨e,he,rfl⟩:=xD;dsimp only;refine hQ _ w' e he hk ?_;have hY:bw w w' (Own E.O (live st.heap) σ) (Own E.O (live (cw fr st.heap)) σ):=by
   refine⟨hU.size,λb hb hM=>hU.block b λhh=>?_,λb hb hM kg =>?_⟩
   .rcases hh with ⟨s,hl,e⟩|hh
    .exact hb (.inr ⟨s,((kJ s).1 hl).1,e⟩)
    .omega
   .rcases kg with kg |⟨s,hl,e⟩
    .exact hb (.inl kg)
    .exact hb (.inr ⟨s,((kp s).1 hl).1,e⟩)
  refine⟨σ,⟨hU.os.trans hs.frame.os,hU.tape.trans hs.frame.tape,hU.output.trans hs.frame.output,Nat.le_trans hs.frame.size hU.size,λb hb=>(hU.block b λhh=>hb (hF b hh)).trans (hs.frame.block b hb)⟩,
   hs.new,hs.apart,hs.defers,hs.nt,λt=>?_,⟨λs b hb=>?_,λs s' b hl kq =>hs.holds.inj s s' b ((kp s).1 hl).1 ((kp s').1 kq).1⟩,hs.fI,hs.dQ,λq0 B hB=>⟨(hs.fix q0 B hB).1,λhl=>(hs.fix q0 B hB).2 ((kp q0).1 hl).1⟩⟩
  .have hr:=hs.aV t;unfold St.get at hr ⊢;rw[pS];cases hf:find st.aV t with
   |none=>exact .undef _
   |some v =>
    rw[hf]at hr;dsimp only[Option.map_some];by_cases hv:gQ ((cw fr st.heap).map (·.1)) v=true
    .rw[if_pos hv];exact kV hr hv hY λx hx=>by
      obtain⟨p,hp,rfl⟩:=List.mem_map.1 hx;exact⟨mK _ hp,rfl⟩
    .rw[if_neg hv];exact .undef _
  have hl:live (cw fr st.heap) s:=aH.2 ⟨b,hb⟩;have hS :find st.heap s=some b:=by
   have hb:find (cw fr st.heap) s=some b:=hb;rw[np]at hb;split at hb
   .exact hb
   .cases hb
  have xm:=aI.1 c6 _ (fh hb);have xm:vm ((cw fr st.heap).map (·.1)) b=true:=xm;refine tO (hs.holds.blk s b hS) xm (List.mem_map.2 ⟨_,fh hb,rfl⟩) (λx hx=>?_) (λg hg=>hU.block g λhh=>?_) hY
  .obtain⟨p,hp,rfl⟩:=List.mem_map.1 hx;exact⟨mK _ hp,rfl⟩
  .have xw:dM (cw fr st.heap) σ g:=⟨s,hl,hg⟩
   rcases hh with hh|hh
   .exact kL g xw hh
   .have:=(kM g xw).2;omega
 |some xh =>
  obtain⟨x,h'⟩:=xh;obtain⟨u,σ',rfl,xx,xv,ki⟩:=xD;obtain⟨⟨c1,c2⟩,hk⟩:=hk;dsimp only;have zl:∀s,live h' s->eJ fr s=false:=λs hl=>by
   obtain⟨b,hb⟩:=aH.1 hl;have:=aI.1 c2 s (List.mem_map.2 ⟨_,fh hb,rfl⟩);rw[aU]at this;simpa using this.2
  have kU:∀s,live (cw fr st.heap++h') s ↔ live (cw fr st.heap) s\/live h' s:=λs=>by
   unfold live;rw[qC];cases find (cw fr st.heap) s <;> simp
  obtain⟨τ,hτ⟩:∃τ:Nat->Value,τ=λs=>if eJ fr s=true then σ s else σ' s:=⟨_,rfl⟩
  have tE:∀s,live (cw fr st.heap) s->τ s=σ s:=λs hl=>by rw[hτ];exact if_pos ((kp s).1 hl).2
  have tH:∀s,live h' s->τ s=σ' s:=λs hl=>by rw[hτ];exact if_neg (by rw[zl s hl];simp)
  have kX:∀b,Own E.O (live (cw fr st.heap++h')) τ b->Own O' (live h') σ' b:=λb hb=>by
   rw[kW];rcases hb with hb|⟨s,hl,e⟩
   .exact .inl (.inl hb)
   .rcases (kU s).1 hl with hl|hl
    .exact .inl (.inr ⟨s,hl,by rw[<- tE s hl];exact e⟩)
    .exact .inr ⟨s,hl,by rw[<- tH s hl];exact e⟩
  have yE:bw w' w' (Own O' (live h') σ') (Own E.O (live (cw fr st.heap++h')) τ):=bw.less kX;have hY:bw w w' (Own E.O (live st.heap) σ) (Own E.O (live (cw fr st.heap++h')) τ):=by
   refine⟨hU.size,λb hb hM=>hU.block b λhh=>?_,λb hb hM kg =>?_⟩
   .rcases hh with ⟨s,hl,e⟩|hh
    .exact hb (.inr ⟨s,((kJ s).1 hl).1,e⟩)
    .omega
   .have kg :=kX b kg;rw[kW]at kg;rcases kg with (kg |⟨s,hl,e⟩)|⟨s,hl,e⟩
    .exact hb (.inl kg)
    .exact hb (.inr ⟨s,((kp s).1 hl).1,e⟩)
    .rcases (xx.home hl e).1 with ⟨s',kq,e'⟩|hh
     .exact hb (.inr ⟨s',((kJ s').1 kq).1,e'⟩)
     .omega
  have yx:∀s∈cS (dP fr st.heap)++(cw fr st.heap).map (·.1),live (cw fr st.heap++h') s/\τ s=σ s:=λs hm=>by
   rcases List.mem_append.1 hm with hm|hm
   .have hl:live h' s:=aI.1 c1 s hm;exact⟨(kU s).2 (.inr hl),by rw[tH s hl];exact xv s hm hl⟩
   .obtain⟨p,hp,rfl⟩:=List.mem_map.1 hm;have hl:live (cw fr st.heap) p.1:=mK _ hp;exact⟨(kU _).2 (.inl hl),tE _ hl⟩
  have yR:∀s b,find (cw fr st.heap) s=some b->cZ w' E.F E.O (live (cw fr st.heap++h')) τ s b:=λs b hb=>by
   have hl:live (cw fr st.heap) s:=aH.2 ⟨b,hb⟩;have hS :find st.heap s=some b:=by
    rw[np]at hb;split at hb
    .exact hb
    .cases hb
   have xm:=aI.1 c6 _ (fh hb);have xm:vm (cS (dP fr st.heap)++(cw fr st.heap).map (·.1)) b=true:=xm;refine tO (hs.holds.blk s b hS) xm (List.mem_append.2 (.inr (List.mem_map.2 ⟨_,fh hb,rfl⟩))) (λx hx=>yx x hx) (λg hg=>hU.block g λhh=>?_) hY;have xw:dM (cw fr st.heap) σ g:=⟨s,hl,hg⟩
   rcases hh with hh|hh
   .exact kL g xw hh
   .have:=(kM g xw).2;omega
  refine hK x _ _ _ hk ?_;refine⟨τ,⟨hU.os.trans hs.frame.os,hU.tape.trans hs.frame.tape,hU.output.trans hs.frame.output,Nat.le_trans hs.frame.size hU.size,λb hb=>(hU.block b λhh=>hb (hF b hh)).trans (hs.frame.block b hb)⟩,
   hs.new,hs.apart,?_,?_,λt=>?_,⟨λs b hb=>?_,λs s' b hl kq e e' =>?_⟩,hs.fI,hs.dQ,λq0 B hB=>?_⟩
  .cases o.dst <;> exact hs.defers
  .cases o.dst <;> simp[Act.put,hs.nt]
  .show aG w' E.O (live (cw fr st.heap++h')) τ (St.get (St.put ⟨rI (cS (dP fr st.heap)++(cw fr st.heap).map (·.1)) st.aV,cw fr st.heap++h'⟩ o.dst x []) t) _
   rw[St.fX,iP (by rw[hs.nt];exact hd)];by_cases e:o.dst=some t
   .rw[if_pos e,if_pos e];exact ki.mono yE λs hl=>⟨(kU s).2 (.inr hl),tH s hl⟩
   .rw[if_neg e,if_neg e];have hr:=hs.aV t;unfold St.get at hr ⊢;rw[pS];cases hf:find st.aV t with
    |none=>exact .undef _
    |some v =>
     rw[hf]at hr;dsimp only[Option.map_some];by_cases hv:gQ (cS (dP fr st.heap)++(cw fr st.heap).map (·.1)) v=true
     .rw[if_pos hv];exact kV hr hv hY yx
     .rw[if_neg hv];exact .undef _
  .have hb:find (cw fr st.heap++h') s=some b:=hb;rw[qC]at hb;cases he:find (cw fr st.heap) s with
   |some b' =>rw[he]at hb;cases hb;exact yR s _ he
   |none =>
    rw[he]at hb;have hl:live h' s:=aH.2 ⟨b,hb⟩;exact(cZ.mono yE (λs hl=>⟨(kU s).2 (.inr hl),tH s hl⟩) hl (λ_ _=>rfl) (xx.blk s b hb)).inF λg hg=>hF g (xx.home hl (by rw[<- tH s hl];exact hg)).1
  .have key:∀s s',live (cw fr st.heap) s->live h' s' ->home (τ s)=some b->home (τ s')=some b->False:=λs s' h1 h2 k1 k2=>by
    rw[tE s h1]at k1;rw[tH s' h2]at k2;have hg:dM (cw fr st.heap) σ b:=⟨s,h1,k1⟩
    rcases (xx.home h2 k2).1 with hh|hh
    .exact kL b hg hh
    .have:=(kM b hg).2;omega
   have hl:live (cw fr st.heap++h') s:=hl;have kq :live (cw fr st.heap++h') s' :=kq;rcases (kU s).1 hl with h1|h1
   .rcases (kU s').1 kq with h2|h2
    .exact hs.holds.inj s s' b ((kp s).1 h1).1 ((kp s').1 h2).1 (by rw[<- tE s h1];exact e) (by rw[<- tE s' h2];exact e')
    .exact(key s s' h1 h2 e e').elim
   .rcases (kU s').1 kq with h2|h2
    .exact(key s' s h2 h1 e' e).elim
    .exact xx.inj s s' b h1 h2 (by rw[<- tH s h1];exact e) (by rw[<- tH s' h2];exact e')
  .obtain⟨f1,f2⟩:=hs.fix q0 B hB;refine⟨f1,λhl=>?_⟩;have hl:live (cw fr st.heap++h') q0:=hl;rcases (kU q0).1 hl with hl|hl
   .rw[tE q0 hl];exact f2 ((kp q0).1 hl).1
   .obtain⟨b,hb⟩:=aH.1 hl;have hm:=aI.1 c2 q0 (List.mem_map.2 ⟨_,fh hb,rfl⟩);rw[aU,Bool.or_eq_true]at hm;rcases hm.1 with hm|hm
    .have:=Nat.lt_of_succ_le (bB hm);omega
    .have hS :=jG hm;obtain⟨_,cells,yS⟩:=jQ hS;rw[tH q0 hl,xv q0 hS hl];exact f2 ((kJ q0).1 (aH.2 ⟨_,yS⟩)).1
def pOf(cx:Cx)(st:St)(o:Oper):Option (AV×List AV) :=
 match o.op with
 | .call c=>(match c.callee with
  | .value f=>(match callee (st.ev cx f)with
   |some (g,_,_)=>(match Nat.beq (cx.chg g) 9 with
    |true=>some (st.ev cx f,cz cx st c.args.toList c.argTypes.toList)
    |false=>(match Nat.beq (cx.chg g) 10 with
     |true=>some (st.ev cx f,(cz cx st c.args.toList c.argTypes.toList).map Qw)
     |false=>(match Nat.beq (cx.chg g) 11 with
      |true=>some (st.ev cx f,(cz cx st c.args.toList c.argTypes.toList).map Qy)
      |false=>none)))
   |none=>none)
  |_=>none)
 |_=>none
theorem NX{cx:Cx}{st:St}{o:Oper}{f:AV}{as:List AV}(h:pOf cx st o=some (f,as)):∃c x,o.op= .call c/\c.callee= .value x/\f=st.ev cx x/\(∃m:AV->AV,(∀(w:World) (O L:Nat->Prop) (σ:Nat->Value) v u,aG w O L σ v u->aG w O L σ (m v) u)/\as=(cz cx st c.args.toList c.argTypes.toList).map m):=by
 unfold pOf at h;split at h
 .rename_i c ho;split at h
  .rename_i x hc;split at h
   .split at h
    .cases h;exact⟨c,x,ho,hc,rfl,id,λ_ _ _ _ _ _ h=>h,(List.map_id _).symm⟩
    .split at h
     .cases h;exact⟨c,x,ho,hc,rfl,Qw,λ_ _ _ _ _ _ h=>Qx h,rfl⟩
     .split at h
      .cases h;exact⟨c,x,ho,hc,rfl,Qy,λ_ _ _ _ _ _ h=>Qz h,rfl⟩
      .cases h
   .cases h
  .cases h
 .cases h
def UM(cx:Cx)(st:St)(o:Oper):Bool :=
 match o.op with
 | .call c=>(match c.callee with
  | .value (.tmp t)=>(match callee (st.ev cx (.tmp t))with|some (g,_,_)=>Nat.beq (cx.chg g) 6|none=>false)
  |_=>false)
 |_=>false
def Eb(cx:Cx)(pv:Int->Value)(Qp:St->Prop)(nt:Nat)(o:Oper)(st:St)(k:St->Prop):Prop :=
 match pOf cx st o with
 |some (f,as)=>(match dq nt o.dst with
  |true=>AK cx pv st f as Qp λv st1=>k ⟨bF st1.aV o.dst v,st1.heap⟩
  |false=>False)
 |none=>(match UM cx st o with|true=>Bk cx nt o st k|false=>jK cx nt false o st k)
def OS(cx:Cx)(pv:Int->Value)(Qp:St->Prop)(E:Env)(e:Exit)(a:Act)(w:World):Prop :=
 match e with
 | .panic ch=> ∃(h1:St) (ev:Int),ev≠0/\Qp h1/\ch=[{v:=pv ev,recovered:=false}]/\Sim cx E h1 a w
 |_=>False
theorem Rg{cx:Cx}{pv:Int->Value}{Qp:St->Prop}{nt:Nat}(hT:bD cx){o:Oper}{st:St}{k:St->Prop}{E:Env}(hn:E.nt=nt)(h:Eb cx pv Qp nt o st k){a:Act}{w:World}(hs:Sim cx E st a w) :
 o.wp cx.P a w (λa' w' => ∃st1,k st1/\Sim cx E st1 a' w') (OS cx pv Qp E):=by
 unfold Eb at h;split at h
 .rename_i f as hp;split at h
  .rename_i hd;obtain⟨c,x,ho,hc,rfl,has⟩:=NX hp;exact Gi ho hc has h (by rw[hn];exact dy hd) hs (λv st1 a' w' hk hA =>⟨_,hk,hA⟩) λh1 w' e he hq hA =>⟨h1,e,he,hq,rfl,hA⟩
  .exact h.elim
 .split at h
  .obtain⟨st1,k1,k2⟩:=Gy hT h;exact Oper.wp_mono (λa' w' hA =>⟨st1,k2,hA⟩) (k1 E a w _ hn hs)
  .obtain⟨st1,k1,k2⟩:=ib hT h;exact Oper.wp_mono (λa' w' hA =>⟨st1,k2,hA⟩) (k1 E a w _ hn hs)
def Cc(ops:List Oper)(t:Nat):Bool:=ops.all λo=>match o.dst with|some d=> !(Nat.beq d t)|none=>true
def zZ(ops:List Oper)(l:List (Nat×AV)):List (Nat×AV):=l.filter λq=>Cc ops q.1
def Us(ops:List Oper)(Qp:St->Prop):St->Prop:=λst=>Qp ⟨zZ ops st.aV,st.heap⟩
theorem Ad(ops:List Oper)(t:Nat):∀l:List (Nat×AV),find (zZ ops l) t=match Cc ops t with|true=>find l t|false=>none
 |[]=>by cases Cc ops t <;> rfl
 |(k,v)::l=>by
  have ih:=Ad ops t l;unfold zZ at ih ⊢;rw[List.filter_cons];by_cases e:k=t
  .subst e;cases hk:Cc ops k with
   |true=>rw[if_pos rfl,bk,bk]
   |false=>rw[if_neg (by decide),ih,hk]
  .rw[bl _ _ e];split
   .rw[bl _ _ e,ih]
   .exact ih
theorem Tp{cx:Cx}{E:Env}{ops:List Oper}{h1:St}{p a:Act}{w:World}(h:Sim cx E h1 p w)(hd:p.defers=a.defers)(hn:p.tmps.size=a.tmps.size)(ht:∀t,Cc ops t=true->p.tmps.getD t Go.undef=a.tmps.getD t Go.undef):Sim cx E ⟨zZ ops h1.aV,h1.heap⟩ a w:=by
 obtain⟨σ,hs⟩:=h;refine⟨σ,hs.frame,hs.new,hs.apart,hd ▸ hs.defers,hn ▸ hs.nt,λt=>?_,hs.holds,hs.fI,hs.dQ,hs.fix⟩;have hr:=hs.aV t;unfold St.get at hr ⊢;rw[Ad];cases ho:Cc ops t with
 |true=>rw[<- ht t ho];exact hr
 |false=>exact .undef _
theorem TA{P:Program}{D:Nat->Prop}{p a:Act}(h:Agr D p a){ops:List Oper}{o:Oper}(kT:∀cs b,o.op≠ .select cs b)(hl:∀t∈looks ops o,¬D t){w:World}{K:Act->World->Prop}{cx:Cx}{pv:Int->Value}{Qp:St->Prop}{E:Env}{Q:Exit->Act->World->Prop}
 (hw:o.wp P p w K (OS cx pv Qp E)) (hq:∀e w',OS cx pv Qp E e p w' ->Q e a w'):o.wp P a w (λa' w' => ∃p',K p' w' /\Agr (λt=>D t/\o.dst≠some t) p' a') Q:=by
 unfold Oper.wp at hw ⊢;rw[h.exec kT hl]at hw;generalize (execOp a.eval o).run P w=r at hw ⊢;cases r with
 |ok n w' =>
  cases n <;> simp only[Oper.upon]at hw ⊢
  case value u=>exact⟨_,hw,h.put _ _⟩
  case skip=>exact⟨_,hw,h.put _ _⟩
  case defer d =>
   refine⟨_,hw,?_⟩;have:Agr D {p with defers:=d::p.defers} {a with defers:=d::a.defers}:=⟨by simp[h.1],h.2.1,h.2.2⟩
   exact this.put _ _
  case enter f args =>
   refine Calls.mono hw λe zG he=>?_
   cases e with
   |returned u=>exact⟨_,he,h.put _ _⟩
   |panicked c=>exact hq _ _ he
   |outgrown=>obtain⟨_,_,hf⟩:=he;exact hf.elim
  case row row args=>exact Rows.mono hw λu zG he=>⟨_,he,h.put _ _⟩
 |halt x w' =>
  cases x <;> simp only[Oper.upon]at hw ⊢;exact hq _ _ hw
def kO(cx:Cx)(pv:Int->Value)(Qp:St->Prop)(nt:Nat)(ops:List Oper)(k:St->Prop):Nat->List Nat->List Nat->St->Prop
 |0,_,_,_=>False
 |f+1,done,hC,st=>(match jn ops (ig ops done)with
  |some i=>(match ops[i]? with
   |some o=>iW ops st o (Ea cx nt o st λst' =>kO cx pv Qp nt ops k f (i::done) (i::hC) st') (match dq nt o.dst with|true=>kO cx pv Qp nt ops k f (i::done) (i::hC) (st.put o.dst (.tuple []) [])|false=>False)
   |none=>False)
  |none=>(match ig ops done with
   |[]=>k st
   |i::t=>Er (λi=>(match ops[i]? with
    |some o=>iW ops st o (Eb cx pv (Us ops Qp) nt o st λst' =>xH cx ops st st' (tv ops i hC) (kO cx pv Qp nt ops k f (i::done) hC st')) (match dq nt o.dst with|true=>kO cx pv Qp nt ops k f (i::done) hC (st.put o.dst (.tuple []) [])|false=>False)
    |none=>False)) (i::t)))
theorem OI{cx:Cx}{pv:Int->Value}{Qp:St->Prop}{nt:Nat}(hT:bD cx){ops:Array Oper}{E:Env}(hn:E.nt=nt){Q:Exit->Act->World->Prop}{k:St->Prop}{st:St}{a:Act}{w:World}(ke:mj ops.toList=true)
 (h:kO cx pv Qp nt ops.toList k (ops.size+1) [] [] st) (hs:Sim cx E st a w) (hQ:∀st' a' w',k st' ->Sim cx E st' a' w' ->Q .normal a' w') (hP:∀st1 a' w' (e:Int),e≠0->Qp st1->Sim cx E st1 a' w' ->Q (.panic [{v:=pv e,recovered:=false}]) a' w'):wpAny cx.P .any ops Q ops.size (Array.replicate ops.size false) a {w with drawn:=w.drawn+1}:=by
 have zq:Sim cx E st a {w with drawn:=w.drawn+1}:=by
  obtain⟨σ,hs⟩:=hs;have hk:bw w {w with drawn:=w.drawn+1} (Own E.O (live st.heap) σ) (Own E.O (live st.heap) σ):=⟨Nat.le_refl _,λ_ _ _=>rfl,λ_ h _=>h⟩
  have kk:∀s,live st.heap s->live st.heap s/\σ s=σ s:=λs h=>⟨h,rfl⟩
  exact⟨σ,⟨hs.frame.os,hs.frame.tape,hs.frame.output,hs.frame.size,hs.frame.block⟩,hs.new,hs.apart,hs.defers,hs.nt,λt=>(hs.aV t).mono hk kk,
   ⟨λs b hb=>cZ.mono hk kk (aH.2 ⟨b,hb⟩) (λ_ _=>rfl) (hs.holds.blk s b hb),hs.holds.inj⟩,hs.fI,hs.dQ,hs.fix⟩
 have hc:=EK ke;generalize xW:(λi:Nat=>((closure ops.toList [])[i]?).getD [])=cl at hc;generalize yd:xp ops.toList (closure ops.toList [])=lt at hc;have kA:∀{o:Oper},dq nt o.dst=true-> ∀e,o.dst=some e->e<E.nt:=λh=>by rw[hn];exact dy h
 have prog:∀(listed:Array Bool),listed.size=ops.size->Region.ready .any ops listed=[]-> ∀j,j<ops.size->listed.getD j false=true:=by
  intro listed hN hr j;induction j using Nat.strongRecOn with
  |_ j ih =>
   intro hj;cases hlj:listed.getD j false with
   |true=>rfl
   |false =>
    have ho:ops.toList[j]? =some ops[j]:=by rw[bx];exact Array.getElem?_eq_getElem hj
    have:j∈Region.ready .any ops listed:=(ga hN).2 ⟨ops[j],ho,hlj,λe he=>by
     have:=hc.Kv j _ ho e he;exact ih e this (by omega)⟩
    rw[hr]at this;cases this
 have key : ∀ (fuel : Nat) (listed : Array Bool), listed.size = ops.size -> ((List.range ops.size).filter fun j => !listed.getD j false).length <= fuel -> ∀ (f : Nat) (done hC : List Nat) (st : St) (a : Act) (w : World), kO cx pv Qp nt ops.toList k f done hC st ->
     Inv cx nt ops cl lt E (λj=>listed.getD j false) done hC st a w->wpAny cx.P .any ops Q fuel listed a w:=by
  intro fuel;induction fuel with
  |zero =>
   intro listed hN xX;have hW:∀j,j<ops.size->listed.getD j false=true:=λj hj=>by
    cases h:listed.getD j false with
    |true=>rfl
    |false =>
     have:j∈(List.range ops.size).filter λj=> !listed.getD j false:=List.mem_filter.2 ⟨List.mem_range.2 hj,by simp[h]⟩
     have:=List.length_pos_of_mem this;omega
   intro f;cases f with
   |zero=>intro done hC st a w h _;exact h.elim
   |succ f =>
    intro done hC st a w h hi;refine⟨?_,?_⟩
    .rw[List.eq_nil_iff_forall_not_mem];intro i hi;obtain⟨o,ho,h1,_⟩:=(ga hN).1 hi;have:i<ops.size:=by have:=(aB.1 ho).1;simpa using this
     rw[hW i this]at h1;cases h1
    .have kD:ig ops.toList done=[]:=by
      rw[List.eq_nil_iff_forall_not_mem];intro i xk;obtain⟨o,ho,h1,_⟩:=jy.1 xk;exact h1 (hi.sub i (hW i (by have:=(aB.1 ho).1;simpa using this)))
     simp only[kO,kD,jn]at h;obtain⟨p,hp,kl⟩:=hi.act;have yi:p=a:=kl.eq λt ⟨x,o,_,hx,ho,_⟩=>by
      have:=hW x (by have:=(aB.1 ho).1;simpa using this);rw[this]at hx;cases hx
     exact hQ st a w h (yi ▸ hp)
  |succ fuel ih =>
   intro listed hN xX f;induction f with
   |zero=>intro done hC st a w h _;exact h.elim
   |succ f zF =>
    intro done hC st a w h hi;rw[kO]at h;split at h
    . -- gone over at once
      rename_i i za;obtain⟨xk,⟨o,ho,hp⟩,yf⟩:=jS za;rw[yd]at yf;obtain⟨o',kg,yI,xL⟩:=jy.1 xk;rw[ho]at kg;cases kg;rw[ho]at h;dsimp only at h;have xl:listed.getD i false=false:=by
       cases hl:listed.getD i false with
       |false=>rfl
       |true=>exact absurd (hi.sub i hl) yI
      obtain⟨p,kH,kl⟩:=hi.act
      have next : ∀ {v : AV} {z : Value}, dq nt o.dst = true -> Sim cx E (st.put o.dst v []) (p.put o.dst z) w -> ((gj ops.toList st o true /\ opK cx o.dst o.type st o.op (lF v [])) \/ (gj ops.toList st o false /\ v = .tuple [])) ->
          kO cx pv Qp nt ops.toList k f (i::done) (i::hC) (st.put o.dst v [])->wpAny cx.P .any ops Q (fuel+1) listed a w:=by
       intro v z hd kj yh hk;refine zF _ _ _ _ _ hk ⟨λj hj=>bC _ (hi.sub j hj),⟨_,kj,?_⟩,λx hx hI=>?_,λj hj x hx=>?_,hi.xi⟩
       .refine(kl.QQ o.dst z).mono λt ht=>?_
        rcases ht with ⟨x,ox,h1,h2,h3,h4⟩|e
        .exact⟨x,ox,bC _ h1,h2,h3,h4⟩
        .exact⟨i,o,List.mem_cons_self .., xl,ho,e⟩
       .rcases List.mem_cons.1 hx with rfl|hx
        .exact⟨⟨List.mem_cons_self .., yf⟩,CT hc ho hp hd yh⟩
        .exact⟨⟨bC _ (hi.re x hx hI).1.1,(hi.re x hx hI).1.2⟩,uA hc hi.lA ho yI hx (.inl yf) (hi.re x hx hI).2⟩
       .rcases List.mem_cons.1 hj with rfl|hj
        .exact bC _ (qm hc (S:=(· ∈done)) hi.lA ho xL x hx)
        .exact bC _ (hi.lA j hj x hx)
      rcases mN h with ⟨hw,h⟩|⟨hw,h⟩
      .unfold Ea at h;split at h
       .rename_i hd;obtain⟨v,bs,hk,_,hj⟩:=Cf h;split at hk
        .obtain⟨v',yN,yg,rfl,rfl⟩:=qR hT hj;obtain⟨_,kI⟩:=yg.2 hp;obtain⟨σ,kk⟩:=kH;obtain⟨z,_,xE⟩:=kI E st σ p w (St.le.refl _) kk;exact next hd ⟨σ,kk.put (kA hd) xE⟩ (.inl ⟨hw,hj⟩) hk
        .exact hk.elim
       .exact h.elim
      .split at h
       .rename_i hd;exact next hd (gA (kA hd) kH) (.inr ⟨hw,rfl⟩) h
       .exact h.elim
    .rename_i xC;refine⟨λhr=>?_,λi xk=>?_⟩
     .have hW:=prog listed hN hr;have kD:ig ops.toList done=[]:=by
       rw[List.eq_nil_iff_forall_not_mem];intro i xk;obtain⟨o,ho,h1,_⟩:=jy.1 xk;exact h1 (hi.sub i (hW i (by have:=(aB.1 ho).1;simpa using this)))
      rw[kD]at h;obtain⟨p,hp,kl⟩:=hi.act;have yi:p=a:=kl.eq λt ⟨x,o,_,hx,ho,_⟩=>by
       have:=hW x (by have:=(aB.1 ho).1;simpa using this);rw[this]at hx;cases hx
      exact hQ st a w h (yi ▸ hp)
     .obtain⟨o,ho,yz,kB⟩:=(ga hN).1 xk;have kM:i<ops.size:=by have:=(aB.1 ho).1;simpa using this
      have kg :ops[i]? =some o:=by rw[<- bx];exact ho
      have kZ:∀x∈cl i,listed.getD x false=true:=qm hc (S:=λx=>listed.getD x false=true) hi.xi ho kB;have hV:∀j,(listed.setIfInBounds i true).getD j false=if j=i then true else listed.getD j false:=λj=>by
       simp only[bM];by_cases e:j=i
       .subst e;simp[show j<listed.size by omega]
       .rw[if_neg e,Array.getElem?_setIfInBounds_ne (λh=>e h.symm)]
      have xF :(listed.setIfInBounds i true).size=ops.size:=by simp[hN]
      have xa :((List.range ops.size).filter λj=> !(listed.setIfInBounds i true).getD j false).length<=fuel:=by
       have:=zT (p:=λj=> !listed.getD j false) (p' :=λj=> !(listed.setIfInBounds i true).getD j false) (λj hj=>by
        rw[hV]at hj;split at hj
        .simp at hj
        .exact hj) (i:=i) (by simp only[yz];rfl) (by rw[hV];simp) (List.mem_range.2 kM)
       omega
      have yb:=hi.Jr hc ho kZ;have kT:=hc.sel i o ho;have kz:∀j,(listed.setIfInBounds i true).getD j false=true-> ∀x∈cl j,(listed.setIfInBounds i true).getD x false=true:=λj hj x hx=>by
       rw[hV];split
       .rfl
       .rw[hV]at hj;split at hj
        .rename_i e;subst e;exact kZ x hx
        .exact hi.xi j hj x hx
      have hD : ∀ (dn : List Nat), (∀ x ∈ done, x ∈ dn) -> ∀ t, (∃ x o, x ∈ done /\ listed.getD x false = false /\ ops.toList[x]? = some o /\ o.dst = some t) /\ o.dst ≠ some t ->
          ∃x o,x∈dn/\(listed.setIfInBounds i true).getD x false=false/\ops.toList[x]? =some o/\o.dst=some t:=by
       rintro dn yU t ⟨⟨x,ox,h1,h2,h3,h4⟩,kf⟩;refine⟨x,ox,yU x h1,?_,h3,h4⟩;rw[hV,if_neg]
       .exact h2
       .intro e;subst e;rw[ho]at h3;cases h3;exact kf h4
      obtain⟨p,kH,kl⟩:=hi.act;have ko:=kl.wanted yb;unfold wpOp;rw[kg];dsimp only;by_cases hid:i∈done
      . -- it was gone over
        obtain⟨_,o2,v,xM,hp,hd,hv,yh⟩:=hi.re i hid yz;rw[ho]at xM;cases xM;have fin:∀{z:Value},Sim cx E (st.put o.dst v []) (p.put o.dst z) w->wpAny cx.P .any ops Q fuel (listed.setIfInBounds i true) (a.put o.dst z) w:=by
         intro z kj;have xY:Sim cx E st (p.put o.dst z) w:=kj.ext (λt=>by
          rw[St.fX];split
          .rename_i e;exact hv t e
          .rfl) (λs=>rfl)
         refine ih _ xF xa (f+1) done hC st _ w (by rw[kO,xC];exact h) ⟨λj hj=>?_,⟨_,xY,(kl.put o.dst z).mono (hD done λx hx=>hx)⟩,λx hx hI=>?_,hi.lA,kz⟩
         .rw[hV]at hj;split at hj
          .rename_i e;subst e;exact hid
          .exact hi.sub j hj
         .rw[hV]at hI;split at hI
          .cases hI
          .exact hi.re x hx hI
        rcases yh with ⟨hw,hk⟩|⟨hw,e⟩
        .have xq:=gG hw (λd _=>rfl) kH;rw[<- ko,xq,if_pos rfl];obtain⟨v',yN,yg,rfl,rfl⟩:=qR hT hk;obtain⟨_,kI⟩:=yg.2 hp;obtain⟨σ,kk⟩:=kH;obtain⟨z,hz,xE⟩:=kI E st σ p w (St.le.refl _) kk;rw[kl.exec kT yb]at hz;refine .inl ?_;simp only[Oper.wp,hz,Oper.upon];exact fin ⟨σ,kk.put (kA hd) xE⟩
        .have xq:=gG hw (λd _=>rfl) kH;rw[<- ko,xq];simp only[fR,if_false];subst e;exact fin (gA (kA hd) kH)
      . -- it comes up
        have xL:∀e∈fE o,e∈done:=λe he=>hi.sub e (kB e he)
        have ka:i∈ig ops.toList done:=jy.2 ⟨o,ho,hid,xL⟩;have xG:iW ops.toList st o (Eb cx pv (Us ops.toList Qp) nt o st λst' =>xH cx ops.toList st st' (tv ops.toList i hC) (kO cx pv Qp nt ops.toList k f (i::done) hC st')) (match dq nt o.dst with|true=>kO cx pv Qp nt ops.toList k f (i::done) hC (st.put o.dst (.tuple []) [])|false=>False):=by
         split at h
         .rename_i kD;rw[kD]at ka;cases ka
         .rename_i x t hx;rw[hx]at ka;have:=qy h i ka;rw[ho]at this;exact this
        have fin : ∀ {st1 : St} {p' a' : Act} {w' : World}, kO cx pv Qp nt ops.toList k f (i :: done) hC st1 -> Sim cx E st1 p' w' -> Agr (fun t => (∃ x o, x ∈ done /\ listed.getD x false = false /\ ops.toList[x]? = some o /\ o.dst = some t) /\ o.dst ≠ some t) p' a' ->
            (∀x∈done,listed.getD x false=false->(x∈hC/\lt x=false)/\qx cx nt ops.toList st1 x)->wpAny cx.P .any ops Q fuel (listed.setIfInBounds i true) a' w' :=by
         intro st1 p' a' w' hk kj xd yj;refine ih _ xF xa f _ _ _ _ _ hk ⟨λj hj=>?_,⟨_,kj,xd.mono (hD (i::done) λx hx=>bC _ hx)⟩,λx hx hI=>?_,λj hj x hx=>?_,kz⟩
         .rw[hV]at hj;split at hj
          .rename_i e;subst e;exact List.mem_cons_self ..
          .exact bC _ (hi.sub j hj)
         .rw[hV]at hI;split at hI
          .cases hI
          .rename_i kf;rcases List.mem_cons.1 hx with e|hx
           .exact absurd e kf
           .exact yj x hx hI
         .rcases List.mem_cons.1 hj with rfl|hj
          .exact bC _ (qm hc (S:=(· ∈done)) hi.lA ho xL x hx)
          .exact bC _ (hi.lA j hj x hx)
        rcases mN xG with ⟨hw,hy⟩|⟨hw,hy⟩
        .have xq:=gG hw (λd _=>rfl) kH;rw[<- ko,xq,if_pos rfl];refine .inl (Oper.wp_mono (λa' w' =>?_) (TA kl kT yb (Rg hT hn hy kH) λe w' hq=>?_))
         rotate_left
         .cases e <;> first|exact hq.elim|skip
          obtain⟨h1,ev,yW,zo,rfl,zr⟩:=hq;exact hP ⟨zZ ops.toList h1.aV,h1.heap⟩ _ _ ev yW zo (Tp zr kl.1 kl.2.1 λt ht=>kl.2.2 t λ⟨x,ox,_,_,xM,yV⟩=>by
           have:=aI.1 ht ox (aD xM);rw[yV]at this;simp at this)
         rintro⟨p',⟨st1,k2,yl⟩,xd⟩;obtain⟨k2,xN⟩:=zp k2;refine fin k2 yl xd λx hx hI=>?_
         obtain⟨yK,yj⟩:=hi.re x hx hI;refine⟨yK,Dp yj (xN x ?_)⟩;unfold tv;refine List.mem_filter.2 ⟨yK.1,?_⟩;have xz:¬x∈cl i:=λhm=>by rw[kZ x hm]at hI;cases hI
         rw[<- xW]at xz;simp only[Bool.not_eq_true', <- Bool.not_eq_true];exact λe=>xz (dF.1 e)
        .have xq:=gG hw (λd _=>rfl) kH;rw[<- ko,xq];simp only[fR,if_false];split at hy
         .rename_i hd;exact fin hy (gA (kA hd) kH) (kl.put o.dst Go.undef) λx hx hI=>⟨(hi.re x hx hI).1,uA hc hi.lA ho hid hx (.inr λhm=>by rw[kZ x hm]at hI;cases hI) (hi.re x hx hI).2⟩
         .exact hy.elim
 refine key ops.size _ (by simp) ?_ (ops.size+1) [] [] st a _ h ⟨λj hj=>?_,⟨a,zq,rfl,rfl,λt _=>rfl⟩,λx hx=>(by cases hx),λj hj=>(by cases hj),λj hj=>?_⟩
 .refine Nat.le_trans (List.length_filter_le _ _) (by simp)
 .simp[bM,Array.getElem?_replicate]at hj;split at hj <;> simp at hj
 .simp[bM,Array.getElem?_replicate]at hj;split at hj <;> simp at hj
theorem Rv{cx:Cx}{pv:Int->Value}{Qp:St->Prop}{nt:Nat}(hT:bD cx)(hm:cx.P.follows .mixedOrders=true){id:Nat}{ops:Array Oper}{E:Env}(hn:E.nt=nt){Q:Exit->Act->World->Prop}{k:St->Prop}{st:St}{a:Act}{w:World}(ke:mj ops.toList=true)
 (h:kO cx pv Qp nt ops.toList k (ops.size+1) [] [] st) (hs:Sim cx E st a w) (hQ:∀st' a' w',k st' ->Sim cx E st' a' w' ->Q .normal a' w') (hP:∀st1 a' w' (e:Int),e≠0->Qp st1->Sim cx E st1 a' w' ->Q (.panic [{v:=pv e,recovered:=false}]) a' w'):(Code.region id ops true).wp cx.P Q a w:=wp_region_any hm (OI hT hn ke h hs hQ hP)
theorem Km{cx:Cx}(hT:bD cx){w:World}{t e ty:TypeId}{ei:TI}(kK:cB cx t=some (e,ei))(hz:ei.zero.all AV.one=true){g o n c:Nat}(hn:0<n){cur:Array Value}{t' :TypeId}(hg:w.heap[g]? =some (.cells cur t' (0,0)))(hl:o+n*ei.size<=cur.size) :
 ∃(zv:Value) (zs:List Value),zs=(Builtin.zeroCells zv.cells n).toList/\zv.cells.size=ei.zero.length/\(∀(j:Nat) c,ei.zero[j]? =some c->jA c (zv.cells.getD j Go.undef))/\(∀v∈zs,v.oneCell' =true)/\zs.length=n*ei.size/\(Builtin.clear_ #[t] ty #[.slice (some ⟨g,o,none⟩) n c]).run cx.P w= .ok (.tuple #[]) (w.setRow g (cur.toList.take o++zs++cur.toList.drop (o+zs.length)).toArray):=by
 obtain⟨ti,ht,xb,kC⟩:=cC kK;obtain⟨_,_,_,_,t2,t3,_⟩:=hT _ _ ht;rw[xb]at t3;obtain rfl:=bZ t3;obtain⟨info,desc,zv,i1,i2,i3,i4,i5,i6,i7,i8,i9,i10⟩:=hT _ _ kC;have zE:(zeroValue e).run cx.P w= .ok zv w:=by simp[zeroValue,typeInfo,i1,i6]
 have km:∀q,q<zv.cells.size->(zv.cells[q]!).oneCell' =true:=λq hq=>by
  have yJ :q<ei.zero.length:=by omega
  have h1:=i9 q _ (au yJ);have h2:=aI.1 hz _ (List.getElem_mem yJ);have h3:zv.cells.getD q Go.undef=zv.cells[q]! :=by simp[hq]
  rw[h3]at h1;obtain⟨_,h4⟩:=gO (w:=w) (O:=λ_=>False) (L:=λ_=>False) (σ:=λ_=> .nilFunc) h1;exact h4.jd (λs hs=>hs.elim) h2
 have kh:∀v∈(Builtin.zeroCells zv.cells n).toList,v.oneCell' =true:=λv hv=>by
  simp[Builtin.zeroCells]at hv;obtain⟨q,hq,rfl⟩:=hv;have kQ:0<zv.cells.size:=by
   rcases Nat.eq_zero_or_pos zv.cells.size with h|h
   .rw[h]at hq;simp at hq
   .exact h
  simpa using km (q % zv.cells.size) (Nat.mod_lt _ kQ)
 refine⟨zv,(Builtin.zeroCells zv.cells n).toList,rfl,i7,i9,kh,by simp[Builtin.zeroCells,i7, <- i8],?_⟩;have xN:=run_storeCells_at (P:=cx.P) g o t' (Builtin.zeroCells zv.cells n).toList 0 cur w hg (by simp[Builtin.zeroCells,i7, <- i8];omega) kh;simp only[Nat.add_zero]at xN;obtain⟨m,rfl⟩:∃m,n=m+1:=⟨n-1,by omega⟩
 simp[Builtin.clear_,run_underlying t2,zE,xN]
theorem Hc{ei:TI}{zs:List Value}{zv:Value}{n:Nat}{z:List D}(yL:zv.cells.size=ei.zero.length)(hN:ei.size=ei.zero.length)(kQ:0<ei.size)(zD:zs=(Builtin.zeroCells zv.cells n).toList)(hz:cA eI ei.zero=some z)(h:∀(j:Nat) c,ei.zero[j]? =some c->jA c (zv.cells.getD j Go.undef)){w:World}{O L:Nat->Prop}{σ:Nat->Value} :
 dR w (Own O L σ) ei.size (List.replicate n z) zs/\fy ei.size (List.replicate n z):=by
 obtain⟨l1,l2⟩:=cD hz;have zC:z.length=ei.size:=l1.trans hN.symm;have yM:∀(j:Nat) x,z[j]? =some x->x.one=true/\Rep w (Own O L σ) x (zv.cells.getD j Go.undef):=λj x hj=>by
  obtain⟨cc,xg,hf⟩:=l2 j x hj;obtain⟨e1,e2⟩:=gO (w:=w) (O:=O) (L:=L) (σ:=σ) (h j cc xg);refine⟨?_,iC hf e2⟩;rcases e1 with e1|rfl
  .cases cc <;> simp only[eI]at hf <;> first|(cases hf;exact e1)|(cases hf;rfl)|cases hf
  .cases hf
 refine⟨λa r j d ha hj=>?_,λr hr=>?_⟩
 .rw[List.getElem?_replicate]at ha;split at ha
  case isFalse=>cases ha
  rename_i hM;cases ha;have zh:j<ei.size:=by have:=(aB.1 hj).1;omega
  refine⟨zv.cells.getD j Go.undef,?_,(yM j d hj).2⟩;rw[zD,bx];unfold Builtin.zeroCells;have ye:a*ei.size+j<n*zv.cells.size:=by
   rw[yL, <- hN];have:(a+1)*ei.size<=n*ei.size:=Nat.mul_le_mul_right _ hM;rw[Nat.add_mul]at this;omega
  rw[Array.getElem?_map,Array.getElem?_range,if_pos ye];have:(a*ei.size+j) % zv.cells.size=j:=by
   rw[yL, <- hN,Nat.mul_comm,Nat.mul_add_mod];exact Nat.mod_eq_of_lt zh
  simp only[Option.map_some,this];rw[getElem!_def,bM];have:j<zv.cells.size:=by omega
  simp[this]
 .obtain⟨_,rfl⟩:=List.mem_replicate.1 hr;exact⟨zC,λx hx=>by obtain⟨j,hj,rfl⟩:=List.getElem_of_mem hx;exact(yM j _ (au hj)).1⟩
section
variable {cx:Cx} {st:St}
theorem Rm(hT:bD cx){o:Oper}{t:TypeId}{x lo:Operand}(ho:o.op= .slice t x (some lo) none none){e:TypeId}{ei:TI}(kK:cB cx t=some (e,ei)){s:Nat}{kd:IntKind}{l:Int}(hx:st.ev cx x= .own s)(yc:st.ev cx lo= .d (.int kd l))
 {e' :TypeId} {rows:List (List D)} {fl:Bool} (hf:find st.heap s=some (.row e' ei.size rows fl)) (h0:0<=l) (hl:l.toNat<rows.length):jh cx o st ⟨bF st.aV o.dst (.tl s ei.size l.toNat),st.heap⟩:=by
 obtain⟨i,rfl⟩:∃i:Nat,l=(i:Int):=⟨l.toNat,by omega⟩
 rw[Int.toNat_natCast]at hl ⊢;intro E a w Q hd ⟨σ,hs⟩;obtain⟨ti,ht,xb,kC⟩:=cC kK;obtain⟨_,_,_,_,t2,t3,_⟩:=hT _ _ ht;rw[xb]at t3;obtain rfl:=bZ t3;obtain⟨_,r2⟩:=dH (w:=w) hT kC;have kG:=hs.ev (St.le.refl st) x;rw[hx]at kG;have kR:=hs.ev (St.le.refl st) lo;rw[yc]at kR;have kR:=kR.int;obtain⟨xs,q1,q2,q3,q4,q5⟩:=hs.holds.blk s _ hf;rcases q1.2 with ⟨_,e0⟩|⟨g,cap,cur,eσ,_,g3,g4,g5,g6,g7⟩
 .omega
 have hL:live st.heap s:=aH.2 ⟨_,hf⟩;have xr:a.eval x=σ s:=by generalize a.eval x=u at kG;cases kG;rfl
 have xV:¬cap=i:=by omega
 have kM:i<=rows.length:=by omega
 have hX:(execOp a.eval o).run cx.P w= .ok (.value (.slice (some ⟨g,0+i*ei.size,none⟩) (rows.length-i) (cap-i))) w:=by
  simp[execOp,ho,xr,eσ,kR,Instr.sliceAt,Instr.slice,Instr.sliceBounds,Instr.sliceBound,run_underlying t2,asIntOf,kM,r2,xV,de]
 simp only[Oper.wp,hX,Oper.upon];exact⟨σ,hs.put hd (.tl s ei.size i g rows.length cap 0 hL eσ)⟩
theorem Sr(hT:bD cx){o:Oper}{t:TypeId}{x hi:Operand}(ho:o.op= .slice t x none (some hi) none){e:TypeId}{ei:TI}(kK:cB cx t=some (e,ei)){s:Nat}{kd:IntKind}{l:Int}(hx:st.ev cx x= .own s)(yc:st.ev cx hi= .d (.int kd l))
 {e' :TypeId} {rows:List (List D)} {fl:Bool} (hf:find st.heap s=some (.row e' ei.size rows fl)) (h0:0<=l) (hl:l.toNat<rows.length):jh cx o st ⟨bF (il s st.aV) o.dst (.own s),(s,.row e' ei.size (rows.take l.toNat))::eL s st.heap⟩:=by
 obtain⟨i,rfl⟩:∃i:Nat,l=(i:Int):=⟨l.toNat,by omega⟩
 rw[Int.toNat_natCast]at hl ⊢;intro E a w Q hd ⟨σ,hs⟩;obtain⟨ti,ht,xb,kC⟩:=cC kK;obtain⟨_,_,_,_,t2,t3,_⟩:=hT _ _ ht;rw[xb]at t3;obtain rfl:=bZ t3;obtain⟨_,r2⟩:=dH (w:=w) hT kC;have kG:=hs.ev (St.le.refl st) x;rw[hx]at kG;have kR:=hs.ev (St.le.refl st) hi;rw[yc]at kR;have kR:=kR.int;obtain⟨xs,q1,q2,q3,q4,q5⟩:=hs.holds.blk s _ hf;rcases q1.2 with ⟨_,e0⟩|⟨g,cap,cur,eσ,_,g3,g4,g5,g6,g7⟩
 .omega
 have hL:live st.heap s:=aH.2 ⟨_,hf⟩;have xr:a.eval x=σ s:=by generalize a.eval x=u at kG;cases kG;rfl
 have yA:i<=cap:=by omega
 have hX:(execOp a.eval o).run cx.P w= .ok (.value (.slice (some ⟨g,0,none⟩) i cap)) w:=by
  simp[execOp,ho,xr,eσ,kR,Instr.sliceAt,Instr.slice,Instr.sliceBounds,Instr.sliceBound,run_underlying t2,asIntOf,r2,yA,de]
 simp only[Oper.wp,hX,Oper.upon];have yy:home (σ s)=some g:=by rw[eσ];rfl
 have hI:xs.length=rows.length*ei.size:=q1.1;have hlen:(rows.take i).length=i:=by rw[List.length_take];omega
 have hle:i*ei.size<=rows.length*ei.size:=Nat.mul_le_mul_right _ (by omega);have yp:xs.take (i*ei.size)=cur.toList.take (i*ei.size):=by
  rw[<- g7,List.take_take,Nat.min_eq_left hle]
 obtain⟨σ3,zt⟩:=hs.GI (s:=s) (b:= .row e' ei.size (rows.take i)) (w' :=w) (d:=o.dst) (u:= .slice (some ⟨g,0,none⟩) i cap) (τ:= .slice (some ⟨g,0,none⟩) i cap) (v:= .own s) hd hL (λx e=>by rw[eσ]at e;cases e) rfl rfl rfl (Nat.le_refl _) (λk _ _=>rfl)
  (λg' zc =>by cases zc;exact .inl yy)
  (λσ' e1 hk=>by
   refine⟨xs.take (i*ei.size),?_,λb hb=>?_,⟨q3.1,λe=>by cases e⟩,λr hr=>q4 r (List.mem_of_mem_take hr),?_⟩
   .refine⟨by rw[hlen,List.length_take,hI];omega,.inr ⟨g,cap,cur,by rw[hlen];exact e1,Nat.zero_le _,g3,by rw[hlen];exact yA,g5,g6,by rw[hlen,yp]⟩⟩
   .rw[e1]at hb;cases hb;exact q2 g yy
   .have hIn:dR w (Own E.O (live st.heap) σ) ei.size rows xs:=q5;have xS:fy ei.size rows:=q4;intro a r j d ha hj;obtain⟨u,hu,hd⟩:=hIn.take xS i a r j d ha hj;exact⟨u,hu,hd.mono hk⟩)
  (λσ' e1=>by
   have:=aG.own (w:=w) (O:=E.O) (σ:=σ') s hL;rw[e1]at this;exact this)
 exact⟨σ3,zt⟩
theorem Sp(hT:bD cx){o:Oper}{t:TypeId}{x:Operand}(ho:o.op= .call {callee:= .builtin .clear,args:= #[x],argTypes:= #[t]}){e:TypeId}{ei:TI}(kK:cB cx t=some (e,ei)){z:List D}(hz:cA eI ei.zero=some z){s i:Nat}(hx:st.ev cx x= .tl s ei.size i)
 {rows:List (List D)} {fl:Bool} (hf:find st.heap s=some (.row e ei.size rows fl)) (hl:i<rows.length):jh cx o st ⟨bF st.aV o.dst (.tuple []),(s,.row e ei.size (rows.take i++List.replicate (rows.length-i) z) fl)::st.heap⟩:=by
 intro E a w Q hd ⟨σ,hs⟩;obtain⟨ti,ht,xb,kC⟩:=cC kK;obtain⟨_,_,_,_,_,_,_,i8,_,_⟩:=hT _ _ kC;have kG:=hs.ev (St.le.refl st) x;rw[hx]at kG;obtain⟨xs,q1,q2,q3,q4,q5⟩:=hs.holds.blk s _ hf;rcases q1.2 with ⟨_,e0⟩|⟨g,cap,cur,eσ,_,g3,g4,g5,g6,g7⟩
 .omega
 have hL:live st.heap s:=aH.2 ⟨_,hf⟩;have zu:ei.size=ei.zero.length:=by obtain⟨_,_,_,_,_,_,_,_,_,_,h,_⟩:=hT _ _ kC;exact h
 have kh:ei.zero.all AV.one=true:=by
  rw[aI];intro c hc;obtain⟨j,hj⟩:=cQ hc;obtain⟨l1,l2⟩:=cD hz;have zi:j<z.length:=by rw[l1];exact(aB.1 hj).1
  obtain⟨cc,xg,yZ⟩:=l2 j _ (au zi);rw[hj]at xg;cases xg;obtain⟨_,_,zv,_,_,_,_,_,_,_,_,i9,_⟩:=hT _ _ kC;obtain⟨e1,e2⟩:=gO (w:=w) (O:=E.O) (L:=live st.heap) (σ:=σ) (i9 j c hj);rcases e1 with e1|rfl
  .exact e1
  .cases yZ
 have hle:i*ei.size+(rows.length-i)*ei.size=rows.length*ei.size:=by rw[<- Nat.add_mul];congr 1;omega
 have xr:a.eval x= .slice (some ⟨g,0+i*ei.size,none⟩) (rows.length-i) (cap-i):=by
  generalize a.eval x=u at kG
  cases kG with|tl _ _ _ g' n' yO o0 zH e1=>rw[eσ]at e1;cases e1;rfl
 rw[Nat.zero_add]at xr;obtain⟨zv,zs,z1,z2,z3,z4,z5,z6⟩:=Km (cx:=cx) hT (w:=w) (t:=t) (e:=e) (ty:=o.type) kK kh (g:=g) (o:=i*ei.size) (n:=rows.length-i) (c:=cap-i) (by omega) g3 (by
  rw[hle,g6];exact Nat.mul_le_mul_right _ g4)
 have hX:(execOp a.eval o).run cx.P w= .ok (.value (.tuple #[])) (w.setRow g (cur.toList.take (i*ei.size)++zs++cur.toList.drop (i*ei.size+zs.length)).toArray):=by
  simp[execOp,ho,resolve,invoke,builtin,xr,z6]
 simp only[Oper.wp,hX,Oper.upon];have hIn:dR w (Own E.O (live st.heap) σ) ei.size rows xs:=q5;have xS:fy ei.size rows:=q4;have hI:xs.length=rows.length*ei.size:=q1.1;have xy:i*ei.size<=rows.length*ei.size:=Nat.mul_le_mul_right _ (by omega);have yv:rows.length*ei.size<=cap*ei.size:=Nat.mul_le_mul_right _ g4;have hlen:(rows.take i++List.replicate (rows.length-i) z).length=rows.length:=by simp;omega
 have yp:xs.take (i*ei.size)=cur.toList.take (i*ei.size):=by
  rw[<- g7,List.take_take,Nat.min_eq_left xy]
 have kP:(xs.take (i*ei.size)++zs).length=rows.length*ei.size:=by
  rw[List.length_append,z5,List.length_take,hI];omega
 have kZ:cur.toList.length=cap*ei.size:=by rw[Array.length_toList];exact g6
 refine⟨σ,hs.write (s:=s) (g:=g) (d:=o.dst) (v:= .tuple []) (u:= .tuple #[]) hd hL (by rw[eσ];rfl) rfl rfl rfl (by simp[World.setRow]) (λk hk=>setRow_other w g k _ hk) (λhk=>?_) (λw' => .tuple _ _ rfl λj c hj=>by simp at hj)⟩;obtain⟨zA,zB⟩:=Hc (n:=rows.length-i) z2 zu q3.1 z1 hz z3 (w:=w) (O:=E.O) (L:=live st.heap) (σ:=σ);refine⟨xs.take (i*ei.size)++zs,?_,q2,⟨q3.1,λe=>by rw[hlen];exact q3.2 e⟩,?_,?_⟩
 .refine⟨by rw[hlen];exact kP,.inr ⟨g,cap,_,by rw[hlen];exact eσ,Nat.zero_le _,setRow_heap w g cur _ _ _ g3,by rw[hlen];exact g4,g5,?_,?_⟩⟩
  .simp only[List.size_toArray,List.length_append,List.length_take,List.length_drop,kZ,z5];omega
  .rw[hlen];show List.take (rows.length*ei.size) (cur.toList.take (i*ei.size)++zs++_)=_
   rw[<- yp, <- kP,List.take_left'];rfl
 .intro r hr;rcases List.mem_append.1 hr with hr|hr
  .exact q4 r (List.mem_of_mem_take hr)
  .exact zB r hr
 .have:=(hIn.take xS i).append zA (by rw[List.length_take,hI,List.length_take,Nat.min_eq_left xy,Nat.min_eq_left (by omega)]);intro a r j d ha hj;obtain⟨u,hu,hd⟩:=this a r j d ha hj;exact⟨u,hu,hd.mono hk⟩
end
theorem aK.sn{cx:Cx}{st:St}(l:List Nat):aK cx st (st.bP l):=λ_ _ _ h=>h.bP l
end NQ
