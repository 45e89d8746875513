/-
  Merged texts.
-/
import Derived.Test.YtmaepddmaghpjaaGreatDoorMQr
import Derived.Scope
set_option linter.all false
namespace NQ
open Go Go.RowKit
inductive Ex where
 |normal
 |exit (id:Nat)
 |ret
def Ex.out:Ex->Exit
 | .normal=> .normal
 | .exit id=> .exit id
 | .ret=> .ret
def aj(cx:Cx)(st st' :St):Prop:= ∀(E:Env) a w,Sim cx E st a w->Sim cx E st' a w
theorem aj.trans{cx:Cx}{a b c:St}(h:aj cx a b)(k:aj cx b c):aj cx a c:=λE x w hs=>k E x w (h E x w hs)
def lh(cx:Cx)(nt:Nat)(fr:List Nat)(ops:Array Oper)(draw:Bool)(Q:St->Prop)(st:St):Prop :=
 (match draw with
  |false=>(match bG 88888 fr with
   |true=>seqB cx nt ops.toList ops.toList Q (st.bt fr)
   |false=>oA cx nt false ops.toList ops.toList Q (st.bt fr))
  |true=>(match bG 99999 fr with
   |true=>ot cx nt ops.toList Q (ops.size+1) [] (st.bt fr)
   |false=>(match bG 66666 fr with
    |true=>kL ops.toList=true/\jy cx nt ops.toList Q (ops.size+1) [] [] (st.bt fr)
    |false=>IF cx nt ops.toList Q (st.bt fr))))
def vc(cx:Cx)(nt:Nat)(fz:Nat->List Nat):Code->(Ex->St->Prop)->St->Prop
 | .skip,Q,st=>Q .normal st
 | .label _,Q,st=>Q .normal st
 | .seq a b,Q,st=>vc cx nt fz a (λe s=>match e with| .normal=>vc cx nt fz b Q s| .exit id=>Q (.exit id) s| .ret=>Q .ret s) st
 | .cond c a b,Q,st=>(match st.ev cx c with
  | .d (.bool t)=>oG t (vc cx nt fz a Q st) (vc cx nt fz b Q st)
  | .maybe p=>(p=true->vc cx nt fz a Q st)/\vc cx nt fz b Q st
  |_=>False)
 | .block id body,Q,st=>vc cx nt fz body (λe s=>match e with| .normal=>Q .normal s| .exit j=>(match Nat.beq j id with|true=>Q .normal s|false=>Q (.exit j) s)| .ret=>Q .ret s) st
 | .loop body, Q, st => ∃ (α : Type) (f : α -> St) (J : α -> Prop) (μ : α -> Nat), (∃ x, J x /\ aj cx st (f x)) /\
     ∀x,J x->vc cx nt fz body (λe s=>match e with| .normal=> ∃y,J y/\μ y<μ x/\aj cx s (f y)| .exit j=>Q (.exit j) s| .ret=>Q .ret s) (f x)
 | .exit id,Q,st=>Q (.exit id) st
 | .ret,Q,st=>Q .ret st
 | .region id ops draw,Q,st=>(match bG 55555 (fz id)with
  |true=> ∃st',aj cx st st' /\lh cx nt (fz id) ops draw (Q .normal) st'
  |false=>lh cx nt (fz id) ops draw (Q .normal) st)
 | .scope c,Q,st=>vc cx nt fz c Q st
 |_,_,_=>False
theorem zI{cx:Cx}{nt:Nat}{fz:Nat->List Nat}(hT:bl cx)(hm:cx.P.follows .mixedOrders=true){E:Env}(hn:E.nt=nt):∀(c:Code) {Q:Ex->St->Prop} {st:St} {a:Act} {w:World} {R:Exit->Act->World->Prop},vc cx nt fz c Q st->Sim cx E st a w ->
 (∀e st' a' w',Q e st' ->Sim cx E st' a' w' ->R e.out a' w')->c.wp cx.P R a w:=by
 intro c;induction c with
 |skip=>intro Q st a w R h hs hR;exact wp_skip (hR .normal st a w h hs)
 |label l=>intro Q st a w R h hs hR;exact wp_label (hR .normal st a w h hs)
 |exit id=>intro Q st a w R h hs hR;exact wp_exit (hR (.exit id) st a w h hs)
 |ret=>intro Q st a w R h hs hR;exact wp_ret (hR .ret st a w h hs)
 |seq x y ihx ihy =>
  intro Q st a w R h hs hR;refine wp_seq (ihx (R:=Exit.then (y.wp cx.P R) R) h hs λe st' a' w' hq hs' =>?_);cases e with
  |normal=>exact ihy hq hs' hR
  |exit id=>exact hR (.exit id) st' a' w' hq hs'
  |ret=>exact hR .ret st' a' w' hq hs'
 |cond c x y ihx ihy =>
  intro Q st a w R h hs hR;simp only[vc]at h;split at h
  . rename_i t ht;have hr:a.eval c= .bool t:=by
     obtain⟨σ,hs⟩:=hs;have:=hs.ev (St.le.refl st) c;rw[ht]at this;exact this.bool
    cases t with
    |true=>exact wp_cond_true hr (ihx h hs hR)
    |false=>exact wp_cond_false hr (ihy h hs hR)
  . rename_i p ht;have hr:∃t,a.eval c= .bool t/\(t=true->p=true):=by
     obtain⟨σ,hs⟩:=hs;have:=hs.ev (St.le.refl st) c;rw[ht]at this;generalize a.eval c=u at this;cases this with|maybe _ b hb=>exact⟨b,rfl,hb⟩
    obtain⟨t,hr,hp⟩:=hr;cases t with
    |true=>exact wp_cond_true hr (ihx (h.1 (hp rfl)) hs hR)
    |false=>exact wp_cond_false hr (ihy h.2 hs hR)
  . exact h.elim
 |block id body ih =>
  intro Q st a w R h hs hR;refine wp_block (ih (R:=Exit.inBlock id R) h hs λe st' a' w' hq hs' =>?_);cases e with
  |normal=>exact hR .normal st' a' w' hq hs'
  |exit j =>
   dsimp only at hq;split at hq
   . rename_i hj;have hj:=aP hj;simp only[Ex.out,Exit.inBlock,hj,if_true];exact hR .normal st' a' w' hq hs'
   . rename_i hj;have hj:j≠id:=λe=>by subst e;simp at hj
     simp only[Ex.out,Exit.inBlock,hj,if_false];exact hR (.exit j) st' a' w' hq hs'
  |ret=>exact hR .ret st' a' w' hq hs'
 |loop body ih =>
  intro Q st a w R h hs hR;obtain⟨α,f,J,μ,⟨x,hx,hw⟩,hround⟩:=h;refine wp_loop_ghost (λn a w=> ∃y,J y/\μ y=n/\Sim cx E (f y) a w) (μ x) ⟨x,hx,rfl,hw E a w hs⟩ ?_;rintro n a w ⟨y,hy,rfl,hs'⟩;refine ih (hround y hy) hs' λe st' a' w' hq hs'' =>?_
  cases e with
  |normal =>
   obtain⟨z,hz,hlt,hw'⟩:=hq;exact⟨μ z,hlt,z,hz,rfl,hw' E a' w' hs''⟩
  |exit j=>exact hR (.exit j) st' a' w' hq hs''
  |ret=>exact hR .ret st' a' w' hq hs''
 |region id ops draw =>
  intro Q st a w R h hs hR;simp only[vc]at h;have key:∀{st:St},lh cx nt (fz id) ops draw (Q .normal) st->Sim cx E st a w->(Code.region id ops draw).wp cx.P R a w:=by
   intro st h hs;unfold lh at h;cases draw with
   |false =>
    simp only at h;cases hb:bG 88888 (fz id)with
    |true=>rw[hb]at h;exact wp_region_list (iS hT hn ops.toList h (hs.bt _) λst' a' w' hk hs' =>hR .normal st' a' w' hk hs')
    |false=>rw[hb]at h;exact wp_region_list (rZ hT hn ops.toList h (hs.bt _) λst' a' w' hk hs' =>hR .normal st' a' w' hk hs')
   |true =>
    simp only at h;cases hany:bG 99999 (fz id)with
    |true=>rw[hany]at h;exact Qt hT hm hn h (hs.bt _) λst' a' w' hk hs' =>hR .normal st' a' w' hk hs'
    |false =>
     rw[hany]at h;simp only at h;cases hv:bG 66666 (fz id)with
     |true=>rw[hv]at h;exact PM hT hm hn h.1 h.2 (hs.bt _) λst' a' w' hk hs' =>hR .normal st' a' w' hk hs'
     |false=>rw[hv]at h;exact Ob hT hm hn h (hs.bt _) λst' a' w' hk hs' =>hR .normal st' a' w' hk hs'
  cases hw:bG 55555 (fz id)with
  |true=>rw[hw]at h;obtain⟨st',h1,h2⟩:=h;exact key h2 (h1 E a w hs)
  |false=>rw[hw]at h;exact key h hs
 |scope c ih =>
  intro Q st a w R h hs hR;refine wp_scope_straight (ih (R:=Exit.noGoto R) h hs λe st' a' w' hq hs' =>?_);cases e <;> exact hR _ st' a' w' hq hs'
 |_=>intro Q st a w R h;exact h.elim
def Ke:Nat->Code->Code
 |0,c=>c
 |n+1,.seq _ b=>Ke n b
 |_+1,c=>c
def AE(cx:Cx)(st:St):List ResultVar->Option (List AV)
 |[]=>some []
 | .tmp t::r=>(match mB (st.get t),AE cx st r with|some v,some vs=>some (v::vs)|_,_=>none)
 | .cell s t::r=>(match st.get s with
  | .ptr b off=>(match find st.heap b with
   |some (.box cells)=>(match takeN cx t (cells.drop off),AE cx st r with|some v,some vs=>some (v::vs)|_,_=>none)
   |_=>none)
  |_=>none)
def oz(cx:Cx)(st:St)(rs:List ResultVar):Option AV :=
 match AE cx st rs with
 |some [v]=>some v
 |some vs=>some (.tuple vs)
 |none=>none
def dZ(i:Nat):List D->List (Nat×AV)
 |[]=>[]
 |x::t=>(i,x.cQ)::dZ (i+1) t
def IA(st:St):AV->Option AV
 | .tuple vs=>(match bH (fY st) vs with|some xs=>some (.tuple (xs.map D.cQ))|none=>none)
 |v=>(match fY st v with|some x=>some x.cQ|none=>none)
def JJ(cx:Cx)(rs:List ResultVar)(st:St):Option AV:=match oz cx st rs with|some v=>IA st v|none=>none
def rC(cx:Cx)(rs:List ResultVar)(v:AV)(bs:List (Nat×Blk))(st:St):Prop:=(bs=[]/\JJ cx rs st=some v)\/(∃st',aj cx st st' /\st'.heap=bs/\oz cx st' rs=some v) \/
 ∃v0,oz cx st rs=some v0/\ ∀(E:Env) σ a w u,aU cx E st σ a w->au w E.O (live st.heap) σ v0 u-> ∃τ,Holds w E.F E.O bs τ/\au w E.O (live bs) τ v u
theorem af{cx:Cx}{rs:List ResultVar}{v x:AV}{st:St}(h:JJ cx rs st=some x)(e:x=v):rC cx rs v [] st:= .inl ⟨rfl,e ▸ h⟩
def fnQ(cx:Cx)(rs:List ResultVar)(v:AV)(bs:List (Nat×Blk)):Ex->St->Prop
 | .normal,st=>rC cx rs v bs st
 | .ret,st=>rC cx rs v bs st
 | .exit _,_=>False
theorem jA:∀(i:Nat) (l:List D) (t:Nat),find (dZ i l) t=if i<=t then(l[t-i]?).map D.cQ else none
 |i,[],t=>by simp[dZ,find]
 |i,x::l,t=>by
  simp only[dZ];by_cases h:i=t
  . subst h;rw[aJ];simp
  . rw[aS _ _ h,jA (i+1) l t];by_cases hl:i<t
    . rw[if_pos (by omega),if_pos (by omega)];obtain⟨q,hq⟩:∃q,t-i=q+1:=⟨t-i-1,by omega⟩
      rw[hq,show t-(i+1)=q by omega];rfl
    . rw[if_neg (by omega),if_neg (by omega)]
def pT(tmps:Array Value):ResultVar->Sem Value
 | .tmp t=>pure (tmps.getD t Go.undef)
 | .cell a t=>do loadVar t (<- asAddr (tmps.getD a Go.undef))
theorem tj(fn:Func)(tmps:Array Value):results fn tmps=(do let vs <- fn.results.mapM (pT tmps);pure (if h:vs.size=1 then vs[0]else .tuple vs)):=by
 unfold results
 congr 1
theorem kA{cx:Cx}(hT:bl cx){E:Env}{st:St}{σ:Nat->Value}{a:Act}{w:World}(hs:aU cx E st σ a w):∀(rs:List ResultVar) (vs:List AV),AE cx st rs=some vs ->
 ∃us:List Value,(rs.mapM (pT a.tmps)).run cx.P w= .ok us w/\us.length=vs.length /\
  ∀(j:Nat) c,vs[j]? =some c->au w E.O (live st.heap) σ c (us.getD j Go.undef)
 |[],vs,h=>by cases h;exact⟨[],by simp,rfl,λj c hj=>by simp at hj⟩
 | .tmp t::rs,vs,h=>by
  simp only[AE]at h;split at h
  . rename_i v vs' hv hvs;cases h;obtain⟨us,h1,h2,h3⟩:=kA hT hs rs vs' hvs;have h0:(pT a.tmps (.tmp t)).run cx.P w= .ok (a.tmps.getD t Go.undef) w:=rfl;refine⟨a.tmps.getD t Go.undef::us,by simp only[List.mapM_cons,Sem.run_bind,h0,Result.andThen,h1,Sem.run_pure],by simp[h2],λj c hj=>?_⟩;cases j with
    |zero=>simp at hj;subst hj;have:=hs.slots t;rw[<- lK hv]at this;exact this
    |succ j=>simp at hj;simpa using h3 j c hj
  . cases h
 | .cell b t::rs,vs,h=>by
  simp only[AE]at h;split at h
  . rename_i s off hb;split at h
    . rename_i cells hf;split at h
      . rename_i v vs' hv hvs;cases h;obtain⟨us,h1,h2,h3⟩:=kA hT hs rs vs' hvs;have hr:=hs.slots b;rw[hb]at hr;obtain⟨g,cur,tt,e1,e2,e3,e4,e5⟩:=hs.holds.blk s _ hf;have hval:a.tmps.getD b Go.undef= .pointer (some ⟨g,off,none⟩):=by
         generalize a.tmps.getD b Go.undef=u at hr
         cases hr with|ptr _ _ _ hL hσ=>rw[hσ]at e1;cases e1;rfl
        obtain⟨z,hz,hrz⟩:=kX (w:=w) (O:=E.O) (L:=live st.heap) (σ:=σ) hT (nr hv) (b:=g) (o:=off) (λj=>cur.getD (off+j) Go.undef) (λj c hj=>by
         rw[List.getElem?_drop]at hj;have hlt:off+j<cur.size:=by have:=(ar.1 hj).1;omega
         simp[World.cell?,e3,hlt]) (λj c hj=>by rw[List.getElem?_drop]at hj;exact(e5 _ c hj).2)
        have hz' :(loadVar t ⟨g,off,none⟩).run cx.P w= .ok z w:=by simpa [Instr.loadAt,Instr.sureAddr] using hz
        have h0:(pT a.tmps (.cell b t)).run cx.P w= .ok z w:=by simp only[pT,hval,asAddr,Sem.run_bind,Sem.run_pure,Result.andThen,hz']
        refine⟨z::us,by simp only[List.mapM_cons,Sem.run_bind,h0,Result.andThen,h1,Sem.run_pure],by simp[h2],λj c hj=>?_⟩;cases j with
        |zero=>simp at hj;subst hj;exact hrz
        |succ j=>simp at hj;simpa using h3 j c hj
      . cases h
    . cases h
  . cases h
theorem cC{cx:Cx}(fz:Nat->List Nat)(hT:bl cx)(hm:cx.P.follows .mixedOrders=true){f:FuncId}{fn:Func}{c:Code}{args:List D}{v:AV}{bs:List (Nat×Blk)}(hf:cx.P.funcs[f]? =some fn)(hname:(fn.name== "runtime.NumGoroutine")=false)(hb:fn.body=some c)
 (hargs:args.length<=fn.ntmps) (h:vc cx fn.ntmps fz c (fnQ cx fn.results.toList v bs) ⟨dZ 0 args,[]⟩):Fn cx f args v bs:=by
 refine⟨⟨fn,hf,hname,by rw[hb];rfl⟩,λO w vs hO hG hGO hsz hrep=>?_⟩;refine calls_of_wp hf hb ?_
 let E:Env:=⟨(w.heap.size<= ·),O,w,fn.ntmps,λ_=>none,[]⟩
 have hs:Sim cx E ⟨dZ 0 args,[]⟩ {tmps:=vs++Array.replicate (fn.ntmps-vs.size) Go.undef,defers:=[]} w:=by
  refine⟨λ_=> .nilFunc,⟨rfl,rfl,rfl,Nat.le_refl _,λ_ _=>rfl⟩,λb hb=>hb,λb hb=>Nat.not_le.2 (hO b hb),rfl,?_,λt=>?_,⟨λs b hs=>by simp[find]at hs,λs s' b hs=>by simp[live,find]at hs⟩,hG,λg cells hg=>⟨Nat.not_le.2 (hG g cells hg).1,hGO g cells hg⟩,λq0 B hB=>by cases hB⟩
  . show(vs++Array.replicate (fn.ntmps-vs.size) Go.undef).size=fn.ntmps
    simp;omega
  . show au w O (live []) _ (St.get ⟨dZ 0 args,[]⟩ t) _
    have hOwn:∀b,Own O (live []) (λ_=>Value.nilFunc) b->O b:=λb hb=>by
     rcases hb with hb|⟨s,hl,_⟩
     . exact hb
     . simp[live,find]at hl
    simp only[St.get,jA,Nat.zero_le,if_true,Nat.sub_zero];cases ht:args[t]? with
    |none=>exact .undef _
    |some x =>
     have hlt:t<vs.size:=by rw[hsz];exact(ar.1 ht).1
     have:(vs++Array.replicate (fn.ntmps-vs.size) Go.undef).getD t Go.undef=vs.getD t Go.undef:=by simp[Array.getElem?_append,hlt]
     rw[this];exact fe ((hrep t x ht).mono (aQ.less hOwn))
 refine zI hT hm (E:=E) rfl c h hs λe st' a' w' hq hs' =>?_
 have key:∀st',rC cx fn.results.toList v bs st' ->Sim cx E st' a' w' ->a'.defers=[]/\ ∃u,(results fn a'.tmps).run cx.P w' = .ok u w' /\ ∃u' τ,Ending.returned u= .returned u' /\Below w.heap.size w w' /\Holds w' (w.heap.size<= ·) O bs τ/\au w' O (live bs) τ v u' :=by
  intro st' hq hs';have run:∀{st2:St} {τ:Nat->Value} {v0:AV},aU cx E st2 τ a' w' ->oz cx st2 fn.results.toList=some v0->Below w.heap.size w w' /\a'.defers=[]/\ ∃u,(results fn a'.tmps).run cx.P w' = .ok u w' /\au w' O (live st2.heap) τ v0 u:=by
   intro st2 τ v0 hs2 hr;unfold oz at hr;have hbel:Below w.heap.size w w' :=⟨hs2.frame.os,hs2.frame.tape,hs2.frame.output,hs2.frame.size,λk hk=>hs2.frame.block k (Nat.not_le.2 hk)⟩
   have hres:∀us:List Value,(fn.results.toList.mapM (pT a'.tmps)).run cx.P w' = .ok us w' ->(results fn a'.tmps).run cx.P w' = .ok (if h:us.toArray.size=1 then us.toArray[0]else .tuple us.toArray) w' :=λus hus=>by
    have hm:(fn.results.mapM (pT a'.tmps)).run cx.P w' = .ok us.toArray w' :=by
     rw[Array.mapM_eq_mapM_toList];simp[hus]
    rw[tj];simp only[Sem.run_bind,hm,Result.andThen,Sem.run_pure]
   refine⟨hbel,hs2.defers,?_⟩;split at hr
   . rename_i v1 hv;cases hr;obtain⟨us,h1,h2,h3⟩:=kA hT hs2 _ _ hv
     match us,h2 with
     |[u],_=>exact⟨u,by rw[hres _ h1];simp,by simpa using h3 0 _ rfl⟩
   . rename_i vs0 hne hv;cases hr;obtain⟨us,h1,h2,h3⟩:=kA hT hs2 _ _ hv;have hl:¬us.length=1:=λe=>by
      rw[h2]at e
      match vs0,e with
      |[x],_=>exact hne x rfl
     exact⟨.tuple us.toArray,by rw[hres _ h1];simp[hl],.tuple _ _ (by simp[h2]) λj c hj=>by simpa [List.getD] using h3 j c hj⟩
   . cases hr
  rcases hq with ⟨rfl,hr⟩|⟨st2,hw,rfl,hr⟩|⟨v0,hr,hk⟩
  . obtain⟨τ,hs2⟩:=hs';unfold JJ at hr;split at hr
    . rename_i v0 hv0;obtain⟨hbel,hdef,u,hu,hru⟩:=run hs2 hv0;refine⟨hdef,u,hu,u,λ_=> .nilFunc,rfl,hbel,⟨λs b hs=>by simp[find]at hs,λs s' b hs=>by simp[live,find]at hs⟩,?_⟩;have lift:∀{x:D} {z:Value},Rep w' O x z->au w' O (live []) (λ_=>Value.nilFunc) x.cQ z:=λh=>fe (h.mono (aQ.less λb hb=>by
       rcases hb with hb|⟨s,hl,_⟩
       . exact hb
       . simp[live,find]at hl))
      unfold IA at hr;split at hr
      . split at hr
        . rename_i xs hxs;cases hr;obtain⟨l1,l2⟩:=bI hxs;cases hru with|tuple _ us hl hh =>
           refine .tuple _ _ (by simp[hl,l1]) λj c hj=>?_
           rw[aM]at hj;cases hx:xs[j]? with
           |none=>rw[hx]at hj;cases hj
           |some x =>
            rw[hx]at hj;cases hj;obtain⟨c0,hc0,hv⟩:=l2 j x hx;exact lift (oi hs2.holds hs2.apart hv (hh j c0 hc0))
        . cases hr
      . split at hr
        . rename_i x hx;cases hr;exact lift (oi hs2.holds hs2.apart hx hru)
        . cases hr
    . cases hr
  . obtain⟨τ,hs2⟩:=hw E a' w' hs';obtain⟨hbel,hdef,u,hu,hru⟩:=run hs2 hr;exact⟨hdef,u,hu,u,τ,rfl,hbel,hs2.holds,hru⟩
  . obtain⟨σ,hs2⟩:=hs';obtain⟨hbel,hdef,u,hu,hru⟩:=run hs2 hr;obtain⟨τ,h1,h2⟩:=hk E σ a' w' u hs2 hru;exact⟨hdef,u,hu,u,τ,rfl,hbel,h1,h2⟩
 cases e with
 |normal=>exact key st' hq hs'
 |ret=>exact key st' hq hs'
 |exit id=>exact hq.elim
theorem aA{cx:Cx}(hT:bl cx)(hm:cx.P.follows .mixedOrders=true){f:FuncId}{fn:Func}{c:Code}{args:List D}{v:AV}{bs:List (Nat×Blk)}(hf:cx.P.funcs[f]? =some fn)(hname:(fn.name== "runtime.NumGoroutine")=false)(hb:fn.body=some c)
 (hargs:args.length<=fn.ntmps) (h:vc cx fn.ntmps (λ_=>[]) c (fnQ cx fn.results.toList v bs) ⟨dZ 0 args,[]⟩):Fn cx f args v bs:=cC (λ_=>[]) hT hm hf hname hb hargs h
def Qh:AV->Option AV
 | .tuple vs=>(match bH fW vs with|some xs=>some (.tuple (xs.map D.cQ))|none=>none)
 |v=>(match fW v with|some x=>some x.cQ|none=>none)
def Pj(cx:Cx)(rs:List ResultVar)(v:AV)(cells' :List D)(st:St):Prop :=
 ∃(fl:List Nat) (v0:AV) (cs:List AV),oz cx (st.bt fl) rs=some v0/\Qh v0=some v/\find (st.bt fl).heap 100000=some (.box cs)/\bH eY cs=some cells'
def Tu(cx:Cx)(rs:List ResultVar)(v:AV)(cells' :List D):Ex->St->Prop
 | .normal,st=>Pj cx rs v cells' st
 | .ret,st=>Pj cx rs v cells' st
 | .exit _,_=>False
theorem Ho{cx:Cx}(hT:bl cx){E:Env}{fn:Func}{st2:St}{τ:Nat->Value}{a' :Act}{w' :World}{v0:AV}(hs2:aU cx E st2 τ a' w')(hr:oz cx st2 fn.results.toList=some v0) :
 ∃u,(results fn a'.tmps).run cx.P w' = .ok u w' /\au w' E.O (live st2.heap) τ v0 u:=by
 unfold oz at hr;have hres:∀us:List Value,(fn.results.toList.mapM (pT a'.tmps)).run cx.P w' = .ok us w' ->(results fn a'.tmps).run cx.P w' = .ok (if h:us.toArray.size=1 then us.toArray[0]else .tuple us.toArray) w' :=λus hus=>by
  have hm:(fn.results.mapM (pT a'.tmps)).run cx.P w' = .ok us.toArray w' :=by
   rw[Array.mapM_eq_mapM_toList];simp[hus]
  rw[tj];simp only[Sem.run_bind,hm,Result.andThen,Sem.run_pure]
 split at hr
 . rename_i v1 hv;cases hr;obtain⟨us,h1,h2,h3⟩:=kA hT hs2 _ _ hv
   match us,h2 with
   |[u],_=>exact⟨u,by rw[hres _ h1];simp,by simpa using h3 0 _ rfl⟩
 . rename_i vs0 hne hv;cases hr;obtain⟨us,h1,h2,h3⟩:=kA hT hs2 _ _ hv;have hl:¬us.length=1:=λe=>by
    rw[h2]at e
    match vs0,e with
    |[x],_=>exact hne x rfl
   exact⟨.tuple us.toArray,by rw[hres _ h1];simp[hl],.tuple _ _ (by simp[h2]) λj c hj=>by simpa [List.getD] using h3 j c hj⟩
 . cases hr
theorem gA{cx:Cx}(fz:Nat->List Nat)(hT:bl cx)(hm:cx.P.follows .mixedOrders=true){f:FuncId}{fn:Func}{c:Code}{cells args:List D}{v:AV}{cells' :List D}(hf:cx.P.funcs[f]? =some fn)(hname:(fn.name== "runtime.NumGoroutine")=false)(hb:fn.body=some c)
 (hargs:args.length+1<=fn.ntmps) (hnt:fn.ntmps<=100000) (h:vc cx fn.ntmps fz c (Tu cx fn.results.toList v cells') ⟨(0,.ptr 100000 0)::dZ 1 args,[(100000,.box (cells.map .d))]⟩):FnB cx f cells args v cells' :=by
 refine⟨⟨fn,hf,hname,by rw[hb];rfl⟩,λO w B cur t vs hO hG hGO hOB hB hcl hcells hsz hrep=>?_⟩;refine calls_of_wp hf hb ?_
 let E:Env:=⟨λb=>b=B\/w.heap.size<=b,λb=>O b/\b≠B,w,fn.ntmps,λq=>if q=100000 then some B else none,[]⟩
 let σ:Nat->Value:=λ_=> .pointer (some ⟨B,0,none⟩)
 have hBlt:B<w.heap.size:=hO B hOB;have hlive:∀s,live [(100000,Blk.box (cells.map .d))] s ↔ s=100000:=λs=>cy
 have hOwn:∀b,Own E.O (live [(100000,Blk.box (cells.map .d))]) σ b ↔ O b:=λb=>by
  constructor
  . rintro(⟨h,_⟩|⟨s,_,e⟩)
    . exact h
    . cases e;exact hOB
  . intro h;by_cases e:b=B
    . subst e;exact .inr ⟨100000,(hlive _).2 rfl,rfl⟩
    . exact .inl ⟨h,e⟩
 have hk:aQ w w O (Own E.O (live [(100000,Blk.box (cells.map .d))]) σ):=aQ.less λb hb=>(hOwn b).1 hb
 have hs:Sim cx E ⟨(0,.ptr 100000 0)::dZ 1 args,[(100000,.box (cells.map .d))]⟩ {tmps:=(#[.pointer (some ⟨B,0,none⟩)]++vs)++Array.replicate (fn.ntmps-(#[Value.pointer (some ⟨B,0,none⟩)]++vs).size) Go.undef,defers:=[]} w:=by
  refine⟨σ,⟨rfl,rfl,rfl,Nat.le_refl _,λ_ _=>rfl⟩,λb hb=> .inr hb,λb hb hF=>?_,rfl,?_,λt=>?_,⟨λs b hs=>?_,λs s' b hs hs' _ _=>((hlive s).1 hs).trans ((hlive s').1 hs').symm⟩,hG,λg cells hg=>⟨λhF=>?_,λhO' =>hGO g cells hg hO'.1⟩,λq0 B' hB' =>by
   by_cases hq:q0=100000
   . subst hq;exact⟨⟨hnt,Nat.le_refl _⟩,λ_=>by cases hB';rfl⟩
   . exact absurd hB' (by show(if q0=100000 then some B else none)≠some B';rw[if_neg hq];simp)⟩
  . rcases hF with e|e
    . exact hb.2 e
    . have:=hO b hb.1;omega
  . show((#[Value.pointer (some ⟨B,0,none⟩)]++vs)++Array.replicate _ Go.undef).size=fn.ntmps
    simp;omega
  . rcases t with _|t
    . show au w E.O (live [(100000,Blk.box (cells.map .d))]) σ (.ptr 100000 0) _
      have:((#[Value.pointer (some ⟨B,0,none⟩)]++vs)++Array.replicate (fn.ntmps-(#[Value.pointer (some ⟨B,0,none⟩)]++vs).size) Go.undef).getD 0 Go.undef= .pointer (some ⟨B,0,none⟩):=by simp[Array.getElem?_append]
      rw[this];exact .ptr _ _ B ((hlive _).2 rfl) rfl
    . have hg:St.get ⟨(0,.ptr 100000 0)::dZ 1 args,[(100000,Blk.box (cells.map .d))]⟩ (t+1)=match (args[t]?).map D.cQ with|some v=>v|none=> .undef:=by
       unfold St.get;rw[aS _ _ (by omega),jA,if_pos (by omega),Nat.add_sub_cancel];cases args[t]? <;> rfl
      rw[hg];cases ht:args[t]? with
      |none=>exact .undef _
      |some x =>
       have hlt:t<vs.size:=by rw[hsz];exact(ar.1 ht).1
       have:((#[Value.pointer (some ⟨B,0,none⟩)]++vs)++Array.replicate (fn.ntmps-(#[Value.pointer (some ⟨B,0,none⟩)]++vs).size) Go.undef).getD (t+1) Go.undef=vs.getD t Go.undef:=by simp[Array.getElem?_append,hlt]
       rw[this];exact fe ((hrep t x ht).mono hk)
  . have hs' :=(hlive s).1 (aC.2 ⟨b,hs⟩);subst hs';have hs:find [(100000,Blk.box (cells.map AV.d))] 100000=some b:=hs;rw[aJ]at hs;cases hs;refine⟨B,cur,t,rfl,.inl rfl,hB,by simpa using hcl,λj c hj=>?_⟩;rw[aM]at hj;cases hc:cells[j]? with
    |none=>rw[hc]at hj;cases hj
    |some d=>rw[hc]at hj;cases hj;exact⟨.inl (hcells j d hc).1,.d _ _ ((hcells j d hc).2.mono hk)⟩
  . rcases hF with e|e
    . exact hGO g cells hg (e ▸ hOB)
    . have:=(hG g cells hg).1;omega
 refine zI hT hm (E:=E) rfl c h hs λe st' a' w' hq hs' =>?_
 have key : ∀ st', Pj cx fn.results.toList v cells' st' -> Sim cx E st' a' w' -> a'.defers = [] /\ ∃ u, (results fn a'.tmps).run cx.P w' = .ok u w' /\ ∃ u' cur' t', Ending.returned u = .returned u' /\ w'.os = w.os /\ w'.tape = w.tape /\ w'.output = w.output /\ w.heap.size <= w'.heap.size /\
     (∀k,k<w.heap.size->k≠B->w'.heap[k]? =w.heap[k]?)/\w'.heap[B]? =some (.cells cur' t' (0,0))/\cur'.size=cells'.length/\(∀(j:Nat) d,cells'[j]? =some d->d.one=true/\Rep w' O d (cur'.getD j Go.undef)) /\
     au w' O (λ_=>False) (λ_=> .nilFunc) v u' :=by
  rintro st' ⟨fl,v0,cs,hr,hpure,hbox,hview⟩ hs';obtain⟨τ,hs2⟩:=hs'.bt fl;generalize st'.bt fl=st2 at hr hbox hs2;have hl2:live st2.heap 100000:=aC.2 ⟨_,hbox⟩;have hτ:=(hs2.fix 100000 B (show(if (100000:Nat)=100000 then some B else none)=some B from if_pos rfl)).2 hl2;obtain⟨b,cur',t',g1,g2,g3,g4,g5⟩:=hs2.holds.blk 100000 _ hbox;rw[hτ]at g1;cases g1;obtain⟨u,hu,hru⟩:=Ho hT hs2 hr;have hback:aQ w' w' (Own E.O (live st2.heap) τ) O:=aQ.less λx hx=>by
   by_cases e:x=B
   . subst e;exact .inr ⟨100000,hl2,by rw[hτ];rfl⟩
   . exact .inl ⟨hx,e⟩
  have lift:∀{x:D} {z:Value},Rep w' (Own E.O (live st2.heap) τ) x z->au w' O (λ_=>False) (λ_=>Value.nilFunc) x.cQ z:=λh=>fe ((h.mono hback).mono (aQ.less λb hb=>by
   rcases hb with hb|⟨s,hl,_⟩
   . exact hb
   . exact hl.elim))
  obtain⟨m1,m2⟩:=bI hview;refine⟨hs2.defers,u,hu,u,cur',t',rfl,hs2.frame.os,hs2.frame.tape,hs2.frame.output,hs2.frame.size,λk hk hne=>hs2.frame.block k λhF=>?_,g3,by rw[g4,m1],λj d hj=>?_,?_⟩
  . rcases hF with e|e
    . exact hne e
    . omega
  . obtain⟨cc,hcc,hfr⟩:=m2 j d hj;refine⟨?_,(gK hfr (g5 j cc hcc).2).mono hback⟩;have h1:=(g5 j cc hcc).1;cases cc <;> simp[eY]at hfr
    . subst hfr;rcases h1 with h1|h1
      . exact h1
      . cases h1
    . subst hfr;rfl
  . unfold Qh at hpure;split at hpure
    . split at hpure
      . rename_i xs hxs;cases hpure;obtain⟨l1,l2⟩:=bI hxs;cases hru with|tuple _ us hl hh =>
         refine .tuple _ _ (by simp[hl,l1]) λj c hj=>?_
         rw[aM]at hj;cases hx:xs[j]? with
         |none=>rw[hx]at hj;cases hj
         |some x =>
          rw[hx]at hj;cases hj;obtain⟨c0,hc0,hv⟩:=l2 j x hx;exact lift (ix hv (hh j c0 hc0))
      . cases hpure
    . split at hpure
      . rename_i x hx;cases hpure;exact lift (ix hx hru)
      . cases hpure
 cases e with
 |normal=>exact key st' hq hs'
 |ret=>exact key st' hq hs'
 |exit id=>exact hq.elim
def zcB:AV->Value->Bool
 | .d (.int k n),.int k' n' =>decide (k=k')&&decide (n=n')
 | .d (.bool b),.bool b' =>b==b'
 | .d (.str s),.string t=>decide (t.data.toList=s)
 | .nil _,.slice none 0 0=>true
 | .d .nmap,.map none=>true
 | .undef,_=>true
 |_,_=>false
theorem SZ{c:AV}{v:Value}(h:zcB c v=true):mR c v:=by
 unfold zcB at h;split at h
 . simp at h;obtain⟨rfl,rfl⟩:=h;rfl
 . simp at h;subst h;rfl
 . rename_i s t;simp at h;show Value.string t= .string ⟨s.toArray⟩
   subst h;cases t;simp
 . rfl
 . rfl
 . trivial
 . cases h
def yA:List AV->List Value->Bool
 |[],[]=>true
 |c::t,v::r=>zcB c v&&yA t r
 |_,_=>false
theorem Ba:∀{l:List AV} {r:List Value},yA l r=true->r.length=l.length/\ ∀(j:Nat) c,l[j]? =some c->mR c (r.getD j Go.undef)
 |[],[],_=>⟨rfl,λj c h=>by simp at h⟩
 |c::t,v::r,h=>by
  simp only[yA,ay]at h;obtain⟨h1,h2⟩:=Ba h.2;refine⟨by simp[h1],λj x hj=>?_⟩;cases j with
  |zero=>simp at hj;subst hj;exact SZ h.1
  |succ j=>simp at hj;simpa using h2 j x hj
 |[],_::_,h=>by cases h
 |_::_,[],h=>by cases h
def SK(agg:Bool):Value->Bool
 | .agg _=>agg
 | .tuple _=>false
 |_=> !agg
def Hv(P:Program)(t:TypeId)(ti:TI):Bool :=
 match P.info? t,P.underlying t with
 | some info, some desc => decide (kindOf desc = ti.kind) && Nat.beq info.size ti.size && Nat.beq info.bytes ti.bytes &&
     (match info.zero with|some z=>yA ti.zero z.cells.toList&&Nat.beq ti.size ti.zero.length&&SK ti.kind.isAgg z|none=>false)
 |_,_=>false
theorem Kj{cx:Cx}{tab:List (Nat×TI)}(hty:cx.ty=find tab)(h:(tab.all λp=>Hv cx.P p.1 p.2)=true):bl cx:=by
 intro t ti ht;rw[hty]at ht;have hmem:∀(l:List (Nat×TI)),find l t=some ti->(t,ti)∈l:=by
  intro l;induction l with
  |nil=>intro h;cases h
  |cons p l ih =>
   obtain⟨k,x⟩:=p;intro h;by_cases e:k=t
   . subst e;rw[aJ]at h;cases h;exact .head _
   . rw[aS _ _ e]at h;exact .tail _ (ih h)
 have hc:=av.1 h _ (hmem tab ht);unfold Hv at hc;split at hc
 . rename_i info desc h1 h2;split at hc
   . rename_i z hz;simp only[ay,decide_eq_true_eq]at hc;obtain⟨⟨⟨c1,c2⟩,c3⟩,⟨c4,c5⟩,c6⟩:=hc;obtain⟨d1,d2⟩:=Ba c4;refine⟨info,desc,z,h1,h2,c1,aP c2,aP c3,hz,by simpa using d1,aP c5,λj c hj=>by simpa [List.getD] using d2 j c hj,?_⟩;cases ha:ti.kind.isAgg <;> rw[ha]at c6 <;> cases z <;> first|rfl|(cases c6;done)|exact⟨rfl,_,rfl⟩
   . simp at hc
 . cases hc
def qk(P:Program):Nat->List Field->List K->Bool
 |_,[],[]=>true
 |i,f::fs,k::ks=>Nat.beq f.offset i&&(f.name != "_")&&(match P.underlying f.type with|some d=>decide (kindOf d=k)|none=>false)&&qk P (i+1) fs ks
 |_,_,_=>false
theorem uv{P:Program}:∀{i:Nat} {fs:List Field} {ks:List K},qk P i fs ks=true->fs.length=ks.length/\ ∀(j:Nat) f k,fs[j]? =some f->ks[j]? =some k->f.offset=i+j/\f.name≠ "_" /\ ∃desc,P.underlying f.type=some desc/\kindOf desc=k
 |_,[],[],_=>⟨rfl,λj f k h=>by simp at h⟩
 |_,[],_::_,h=>by cases h
 |_,_::_,[],h=>by cases h
 |i,f::fs,k::ks,h=>by
  simp only[qk,ay,bne_iff_ne]at h;obtain⟨⟨⟨h1,h2⟩,h3⟩,h4⟩:=h;obtain⟨a1,a2⟩:=uv h4;refine⟨by simp[a1],λj g l hg hl=>?_⟩;cases j with
  |zero =>
   simp at hg hl;subst hg;subst hl;refine⟨by have:=aP h1;omega,h2,?_⟩;split at h3
   . rename_i d hd;exact⟨d,hd,of_decide_eq_true h3⟩
   . cases h3
  |succ j =>
   simp at hg hl;obtain⟨b1,b2⟩:=a2 j g l hg hl;exact⟨by omega,b2⟩
def GO(P:Program)(t:TypeId)(ks:List K):Bool :=
 match P.underlying t with
 |some (.struct fs)=>(P.stoodInHeld t==false)&&(P.eqGuardType P.depth t==false)&&qk P 0 fs.toList ks
 |_=>false
theorem IH{P:Program}{tab:List (Nat×List K)}(h:(tab.all λp=>GO P p.1 p.2)=true):∀t ks,find tab t=some ks->xc P t ks:=by
 intro t ks ht;have hmem:∀(l:List (Nat×List K)),find l t=some ks->(t,ks)∈l:=by
  intro l;induction l with
  |nil=>intro h;cases h
  |cons p l ih =>
   obtain⟨k,x⟩:=p;intro h;by_cases e:k=t
   . subst e;rw[aJ]at h;cases h;exact .head _
   . rw[aS _ _ e]at h;exact .tail _ (ih h)
 have hc:=av.1 h _ (hmem tab ht);unfold GO at hc;split at hc
 . rename_i fs hfs;simp only[ay,beq_iff_eq]at hc;obtain⟨⟨c1,c2⟩,c3⟩:=hc;obtain⟨d1,d2⟩:=uv c3;exact⟨fs,hfs,c1,c2,d1,λi f k h1 h2=>by have:=d2 i f k h1 h2;rw[Nat.zero_add]at this;exact this⟩
 . cases hc
def vU(h:List (Nat×Blk)):AV->Bool
 | .own s=>(find h s).isSome
 | .ptr s _=>(find h s).isSome
 | .rptr s _ _ _=>(find h s).isSome
 | .omap s=>(find h s).isSome
 | .d _=>true
 | .nil _=>true
 | .undef=>true
 |_=>false
def refs(h:List (Nat×Blk)):AV->Bool
 | .agg cs=>cs.all (vU h)
 | .tuple vs=>vs.all (vU h)
 | .fn _ a b=>a.all (vU h)&&b.all (vU h)
 |v=>vU h v
def Qj(h:List (Nat×Blk)):Blk->Bool
 | .box cells=>cells.all (refs h)
 | .arow _ _ rows=>rows.all λr=>r.all (refs h)
 |_=>true
def Jh(st:St)(h:List (Nat×Blk)):List (Nat×AV)->Prop
 |[]=>True
 |(t,v)::r=>(st.get t=v/\refs h v=true)/\Jh st h r
def Cw(st:St)(h:List (Nat×Blk)):List (Nat×Blk)->Prop
 |[]=>True
 |(s,b)::r=>(find st.heap s=some b/\Qj h b=true)/\Cw st h r
section
variable {w:World} {O L:Nat->Prop} {σ:Nat->Value} {h:List (Nat×Blk)}
theorem fh(hL:∀s,live h s->L s){c:AV}{v:Value}(hr:au w O L σ c v)(hf:vU h c=true):au w O (live h) σ c v:=by
 have hk:aQ w w (Own O L σ) (Own O (live h) σ):=aQ.less λb hb=>by
  rcases hb with hb|⟨s,hs,e⟩
  . exact .inl hb
  . exact .inr ⟨s,hL s hs,e⟩
 cases hr with
 |undef=>exact .undef _
 |d x v hr=>exact .d _ _ (hr.mono hk)
 |nil=>exact .nil _
 |ptr s off b _ e=>exact .ptr s off b hf e
 |own s _=>exact .own s hf
 |rptr s z i o b n c o0 _ e=>exact .rptr s z i o b n c o0 hf e
 |omap s _=>exact .omap s hf
 |maybe=>cases hf
 |agg=>cases hf
 |tuple=>cases hf
 |fn=>cases hf
theorem lM(hL:∀s,live h s->L s){c:AV}{v:Value}(hr:au w O L σ c v)(hf:refs h c=true):au w O (live h) σ c v:=by
 cases hr with
 |agg cs vs hl hh=>exact .agg _ _ hl λj c hj=>fh hL (hh j c hj) (av.1 hf c (ao hj))
 |tuple cs vs hl hh=>exact .tuple _ _ hl λj c hj=>fh hL (hh j c hj) (av.1 hf c (ao hj))
 |fn f a b xs vs hx hl h1 h2 =>
  simp only[refs,ay]at hf;exact .fn _ _ _ _ _ hx hl (λj c hj=>fh hL (h1 j c hj) (av.1 hf.1 c (ao hj))) (λj c hj=>fh hL (h2 j c hj) (av.1 hf.2 c (ao hj)))
 |undef=>exact fh hL (.undef _) hf
 |d x v hr=>exact fh hL (.d x v hr) hf
 |nil z=>exact fh hL (.nil z) hf
 |ptr s off b l e=>exact fh hL (.ptr s off b l e) hf
 |own s l=>exact fh hL (.own s l) hf
 |rptr s z i o b n c o0 l e=>exact fh hL (.rptr s z i o b n c o0 l e) hf
 |omap s l=>exact fh hL (.omap s l) hf
 |maybe p b h=>exact fh hL (.maybe p b h) hf
end
theorem yR{st:St}{h:List (Nat×Blk)}:∀{l:List (Nat×AV)},Jh st h l-> ∀t v,find l t=some v->st.get t=v/\refs h v=true
 |[],_,t,v,e=>by cases e
 |(k,x)::r,hk,t,v,e=>by
  by_cases hh:k=t
  . subst hh;rw[aJ]at e;cases e;exact hk.1
  . rw[aS _ _ hh]at e;exact yR hk.2 t v e
theorem kR{st:St}{h:List (Nat×Blk)}:∀{l:List (Nat×Blk)},Cw st h l-> ∀t v,find l t=some v->find st.heap t=some v/\Qj h v=true
 |[],_,t,v,e=>by cases e
 |(k,x)::r,hk,t,v,e=>by
  by_cases hh:k=t
  . subst hh;rw[aJ]at e;cases e;exact hk.1
  . rw[aS _ _ hh]at e;exact kR hk.2 t v e
theorem aj.keep{cx:Cx}{st:St}{sl:List (Nat×AV)}{h:List (Nat×Blk)}(h1:Jh st h sl)(h2:Cw st h h):aj cx st ⟨sl,h⟩:=by
 rintro E a w ⟨σ,hs⟩;have hL:∀s,live h s->live st.heap s:=λs hl=>by
  obtain⟨b,hb⟩:=aC.1 hl;exact aC.2 ⟨b,(kR h2 s b hb).1⟩
 have hk:aQ w w (Own E.O (live st.heap) σ) (Own E.O (live h) σ):=aQ.less λb hb=>by
  rcases hb with hb|⟨s,hs,e⟩
  . exact .inl hb
  . exact .inr ⟨s,hL s hs,e⟩
 refine⟨σ,hs.frame,hs.new,hs.apart,hs.defers,hs.nt,λt=>?_,⟨λs b hb=>?_,λs s' b l l' e e' =>hs.holds.inj s s' b (hL s l) (hL s' l') e e'⟩,hs.glob,hs.globF,λq0 B hB=>⟨(hs.fix q0 B hB).1,λh=>(hs.fix q0 B hB).2 (hL _ h)⟩⟩
 . show au w E.O (live h) σ (St.get ⟨sl,h⟩ t) _
   unfold St.get;cases hf:find sl t with
   |none=>exact .undef _
   |some v =>
    obtain⟨e1,e2⟩:=yR h1 t v hf;have:=hs.slots t;rw[e1]at this;exact lM hL this e2
 . obtain⟨e1,e2⟩:=kR h2 s b hb;have hold:=hs.holds.blk s b e1;cases b with
   |box cells =>
    obtain⟨g,cur,t,p1,p2,p3,p4,p5⟩:=hold;exact⟨g,cur,t,p1,p2,p3,p4,λj c hj=>⟨(p5 j c hj).1,lM hL (p5 j c hj).2 (av.1 e2 c (ao hj))⟩⟩
   |row e size rows fl =>
    obtain⟨xs,p1,p2,p3,p4,p5⟩:=hold;refine⟨xs,p1,p2,p3,p4,λi r j d hi hj=>?_⟩;obtain⟨u,hu,hd⟩:=p5 i r j d hi hj;exact⟨u,hu,hd.mono hk⟩
   |smap m =>
    obtain⟨g,es,cl,p1,p2,p3,p4,p5⟩:=hold;refine⟨g,es,cl,p1,p2,p3,p4,λj k v hj=>?_⟩;obtain⟨e,he,q1,q2⟩:=p5 j k v hj;exact⟨e,he,q1.mono hk,q2.mono hk⟩
   |kmap m=>obtain⟨g,es,cl,p1,p2,p3,p4⟩:=hold;exact⟨g,es,cl,p1,p2,p3,p4.mono λ_ _ h=>h.mono hk⟩
   |arow e size rows =>
    obtain⟨g,cur,t,p1,p2,p3,p4,p5⟩:=hold;exact⟨g,cur,t,p1,p2,p3,p4,λi r j c hi hj=>⟨(p5 i r j c hi hj).1,lM hL (p5 i r j c hi hj).2 (av.1 (av.1 e2 r (ao hi)) c (ao hj))⟩⟩
   |tail e size rows=>exact⟨hold.1.mono (λ_ _=>rfl) λ_ _ hr=>hr.mono hk,hold.2⟩
   |iter left cur=>exact⟨hold.1.mono (λ_ _=>rfl) hk,hold.2⟩
def Qi(h:List (Nat×Blk)):AV->Bool
 | .tuple vs=>vs.all (refs h)
 |v=>refs h v
theorem Mj{w:World}{O L:Nat->Prop}{σ:Nat->Value}{h:List (Nat×Blk)}(hL:∀s,live h s->L s){c:AV}{v:Value}(hr:au w O L σ c v)(hf:Qi h c=true):au w O (live h) σ c v:=by
 cases c with
 |tuple vs=>cases hr with|tuple _ us hl hh=>exact .tuple _ _ hl λj c hj=>lM hL (hh j c hj) (av.1 hf c (ao hj))
 |_=>exact lM hL hr hf
theorem tk{cx:Cx}{rs:List ResultVar}{v:AV}{bs:List (Nat×Blk)}{st:St}(h:oz cx st rs=some v)(h1:Qi bs v=true)(h2:Cw st bs bs):rC cx rs v bs st:=by
 refine .inr (.inr ⟨v,h,λE σ a w u hs hr=>⟨σ,?_,Mj (λs hl=>?_) hr h1⟩⟩)
 . obtain⟨σ',hs'⟩:∃σ',σ' =σ/\aU cx E ⟨[],bs⟩ σ' a w:=by
    have hL:∀s,live bs s->live st.heap s:=λs hl=>by
     obtain⟨b,hb⟩:=aC.1 hl;exact aC.2 ⟨b,(kR h2 s b hb).1⟩
    refine⟨σ,rfl,?_⟩;have hk:aQ w w (Own E.O (live st.heap) σ) (Own E.O (live bs) σ):=aQ.less λb hb=>by
     rcases hb with hb|⟨s,hs,e⟩
     . exact .inl hb
     . exact .inr ⟨s,hL s hs,e⟩
    refine⟨hs.frame,hs.new,hs.apart,hs.defers,hs.nt,λt=> .undef _,⟨λs b hb=>?_,λs s' b l l' e e' =>hs.holds.inj s s' b (hL s l) (hL s' l') e e'⟩,hs.glob,hs.globF,λq0 B hB=>⟨(hs.fix q0 B hB).1,λh=>(hs.fix q0 B hB).2 (hL _ h)⟩⟩;obtain⟨e1,e2⟩:=kR h2 s b hb;have hold:=hs.holds.blk s b e1;cases b with
    |box cells =>
     obtain⟨g,cur,t,p1,p2,p3,p4,p5⟩:=hold;exact⟨g,cur,t,p1,p2,p3,p4,λj c hj=>⟨(p5 j c hj).1,lM hL (p5 j c hj).2 (av.1 e2 c (ao hj))⟩⟩
    |row e size rows fl =>
     obtain⟨xs,p1,p2,p3,p4,p5⟩:=hold;refine⟨xs,p1,p2,p3,p4,λi r j d hi hj=>?_⟩;obtain⟨u,hu,hd⟩:=p5 i r j d hi hj;exact⟨u,hu,hd.mono hk⟩
    |smap m =>
     obtain⟨g,es,cl,p1,p2,p3,p4,p5⟩:=hold;refine⟨g,es,cl,p1,p2,p3,p4,λj k v hj=>?_⟩;obtain⟨e,he,q1,q2⟩:=p5 j k v hj;exact⟨e,he,q1.mono hk,q2.mono hk⟩
    |kmap m=>obtain⟨g,es,cl,p1,p2,p3,p4⟩:=hold;exact⟨g,es,cl,p1,p2,p3,p4.mono λ_ _ h=>h.mono hk⟩
    |arow e size rows =>
     obtain⟨g,cur,t,p1,p2,p3,p4,p5⟩:=hold;exact⟨g,cur,t,p1,p2,p3,p4,λi r j c hi hj=>⟨(p5 i r j c hi hj).1,lM hL (p5 i r j c hi hj).2 (av.1 (av.1 e2 r (ao hi)) c (ao hj))⟩⟩
    |tail e size rows=>exact⟨hold.1.mono (λ_ _=>rfl) λ_ _ hr=>hr.mono hk,hold.2⟩
    |iter left cur=>exact⟨hold.1.mono (λ_ _=>rfl) hk,hold.2⟩
   obtain⟨rfl,hs'⟩:=hs';exact hs'.holds
 . obtain⟨b,hb⟩:=aC.1 hl;exact aC.2 ⟨b,(kR h2 s b hb).1⟩
theorem aj.ni{cx:Cx}{st:St}(t s sz:Nat)(e:TypeId)(sz' :Nat)(h1:st.get t= .nil sz)(h2:find st.heap s=none)(h3:0<sz')(h4:Nat.blt s 100000=true:=by rfl):aj cx st ⟨(t,.own s)::st.slots,(s,.row e sz' [])::st.heap⟩:=by
 rintro E a w ⟨σ,hs⟩;have hn:¬live st.heap s:=by unfold live;rw[h2];simp
 let σ' :Nat->Value:=λx=>if x=s then .slice none 0 0 else σ x
 have e1:σ' s= .slice none 0 0:=if_pos rfl;have e2:∀x,live st.heap x->σ' x=σ x:=λx hl=>if_neg λ(e:x=s)=>hn (e ▸ hl)
 have hL:∀x,live ((s,Blk.row e sz' [])::st.heap) x ↔ x=s\/live st.heap x:=λx=>by
  have:=cd (bs:=[(s,Blk.row e sz' [])]) (h:=st.heap) (s:=x);rw[cy]at this;exact this
 have hk:aQ w w (Own E.O (live st.heap) σ) (Own E.O (live ((s,Blk.row e sz' [])::st.heap)) σ'):=aQ.less λb hb=>by
  rcases hb with hb|⟨x,hl,hx⟩
  . exact .inl hb
  . rcases (hL x).1 hl with rfl|hl
    . rw[e1]at hx;cases hx
    . rw[e2 x hl]at hx;exact .inr ⟨x,hl,hx⟩
 have hss:∀x,live st.heap x->live ((s,Blk.row e sz' [])::st.heap) x/\σ' x=σ x:=λx hl=>⟨(hL x).2 (.inr hl),e2 x hl⟩
 refine⟨σ',hs.frame,hs.new,hs.apart,hs.defers,hs.nt,λq=>?_,⟨λx b hb=>?_,λx y b l l' f f' =>?_⟩,hs.glob,hs.globF,λq0 B hB=>⟨(hs.fix q0 B hB).1,λh=>?_⟩⟩
 . show au w E.O (live ((s,Blk.row e sz' [])::st.heap)) σ' (St.get ⟨(t,.own s)::st.slots,_⟩ q) _
   by_cases hq:t=q
   . subst hq;have hv:St.get ⟨(t,AV.own s)::st.slots,(s,Blk.row e sz' [])::st.heap⟩ t= .own s:=by simp[St.get,aJ]
     rw[hv];have hr:=hs.slots t;rw[h1]at hr;have:a.tmps.getD t Go.undef=σ' s:=by rw[e1];generalize a.tmps.getD t Go.undef=u at hr;cases hr;rfl
     rw[this];exact .own s ((hL s).2 (.inl rfl))
   . have hv:St.get ⟨(t,AV.own s)::st.slots,(s,Blk.row e sz' [])::st.heap⟩ q=st.get q:=by simp[St.get,aS _ _ hq]
     rw[hv];exact(hs.slots q).mono hk hss
 . have hb' :find ((s,Blk.row e sz' [])::st.heap) x=some b:=hb;rw[fF]at hb';split at hb'
   . rename_i hx;subst hx;cases hb';exact⟨[],by rw[e1];exact World.ownsRow_nil w 0 e sz',(λb hb=>by rw[e1]at hb;cases hb),⟨h3,λe=>by cases e⟩,λr hr=>by simp at hr,λi r j d hi=>by simp at hi⟩
   . have hl:live st.heap x:=aC.2 ⟨b,hb'⟩;exact(hs.holds.blk x b hb').mono hk hss hl λg _=>rfl
 . rcases (hL x).1 l with rfl|l
   . rw[e1]at f;cases f
   . rcases (hL y).1 l' with rfl|l'
     . rw[e1]at f';cases f'
     . rw[e2 x l]at f;rw[e2 y l']at f';exact hs.holds.inj x y b l l' f f'
 . rcases (hL _).1 h with e|h
   . have hq0:=(hs.fix q0 B hB).1.2;have:s<100000:=Nat.lt_of_succ_le (ag h4);omega
   . rw[e2 _ h];exact(hs.fix q0 B hB).2 h
theorem bQ{n:Nat}{p:Nat->Bool}:(List.range (n+1)).all p=((List.range n).all p&&p n):=by simp[List.range_succ]
theorem bF{n k:Nat}{p:Nat->Bool}(hk:k<n)(h:p k=false):(List.range n).all p=false:=by
 rw[List.all_eq_false];exact⟨k,List.mem_range.2 hk,by simp[h]⟩
theorem wrap_i64{n:Int}(h1: -9223372036854775808<=n)(h2:n<=9223372036854775807):IntKind.i64.wrap n=n:=by
 simp[IntKind.wrap,IntKind.signed,IntKind.bits];omega
theorem cK{cx:Cx}{f:FuncId}{args:List D}{v:AV}(hc:ja cx.P f)(hf:IN v=true)
 (h:∀(w:World) (vs:Array Value),gu cx w->vs.size=args.length->(∀(j:Nat) d,args[j]? =some d->Rep w (λ_=>False) d (vs.getD j Go.undef)) ->
  Calls cx.P f vs w λe w' => ∃u,e= .returned u/\Below w.heap.size w w' /\au w' (λ_=>False) (live []) (λ_=> .nilFunc) v u):Fn cx f args v []:=by
 refine⟨hc,λO w vs _ hG _ hsz hrep=>?_⟩;refine(h w vs hG hsz λj d hj=>(hrep j d hj).mono (aQ.less λb hb=>hb.elim)).mono ?_;rintro e w' ⟨u,he,hb,hr⟩;exact⟨u,λ_=> .nilFunc,he,hb,⟨λs b hs=>by simp[find]at hs,λs s' b hs=>by simp[live,find]at hs⟩,Bi hr hf⟩
theorem dm{w:World}{O:Nat->Prop}{s:List UInt8}{v:Value}(h:Rep w O (.str s) v):∃b:ByteArray,v= .string b/\b.data.toList=s:=by
 cases h with|str s b h=>exact⟨b,rfl,h⟩
theorem vV{w:World}{O:Nat->Prop}{k:IntKind}{n:Int}{v:Value}(h:Rep w O (.int k n) v):v= .int k n:=by cases h;rfl
theorem Pg{w:World}{O:Nat->Prop}{b:Bool}{v:Value}(h:Rep w O (.bool b) v):v= .bool b:=by cases h;rfl
theorem qK{vs:Array Value}(h:vs.size=1):vs= #[vs.getD 0 Go.undef]:=by
 apply Array.ext
 . simp[h]
 . intro i h1 h2;simp at h2;subst h2;simp[h]
theorem qL{vs:Array Value}(h:vs.size=2):vs= #[vs.getD 0 Go.undef,vs.getD 1 Go.undef]:=by
 apply Array.ext
 . simp[h]
 . intro i h1 h2;simp at h2;rcases i with _|_|i
   . simp[h]
   . simp[h]
   . omega
theorem Tr{vs:Array Value}(h:vs.size=3):vs= #[vs.getD 0 Go.undef,vs.getD 1 Go.undef,vs.getD 2 Go.undef]:=by
 apply Array.ext
 . simp[h]
 . intro i h1 h2;simp at h2;rcases i with _|_|_|i
   . simp[h]
   . simp[h]
   . simp[h]
   . omega
theorem aG{α:Type}{f:α->List D}{l:List α}{k:Nat}{g:α}(h:l[k]? =some g):(l.map f)[((k:Nat):Int).toNat]? =some (f g):=by simp[h]
theorem gW{k:Nat}(h:decide ((k:Int)>0)=true)(hk:k<=4611686018427387904):0<=IntKind.i64.wrap ((k:Int)-1)/\(IntKind.i64.wrap ((k:Int)-1)).toNat=k-1:=by
 simp at h;rw[wrap_i64 (by omega) (by omega)];omega
theorem eo{α:Type}{f:α->List D}{l:List α}{k:Nat}{g:α}(h:decide ((k:Int)>0)=true)(hk:k<=4611686018427387904)(hg:l[k-1]? =some g):(l.map f)[(IntKind.i64.wrap ((k:Int)-1)).toNat]? =some (f g):=by
 rw[(gW h hk).2];simp[hg]
theorem an{k:Nat}(hk:k<=4611686018427387904):AV.d (D.int .i64 (IntKind.i64.wrap ((k:Int)+1)))=AV.d (D.int .i64 ((k+1:Nat):Int)):=by
 rw[wrap_i64 (by omega) (by omega)];rfl
def gH:Nat->List AV->List (Nat×AV)
 |_,[]=>[]
 |i,x::t=>(i,x)::gH (i+1) t
theorem mX:∀(i:Nat) (l:List AV) (t:Nat),find (gH i l) t=if i<=t then l[t-i]? else none
 |i,[],t=>by simp[gH,find]
 |i,x::l,t=>by
  unfold gH;by_cases e:i=t
  . subst e;rw[aJ,if_pos (Nat.le_refl _),Nat.sub_self];rfl
  . rw[aS _ _ e,mX (i+1) l t];by_cases h:i<=t
    . rw[if_pos h,if_pos (by omega)];obtain⟨u,hu⟩:∃u,t-i=u+1:=⟨t-i-1,by omega⟩
      rw[hu,List.getElem?_cons_succ]
      congr 1;omega
    . rw[if_neg h,if_neg (by omega)]
def Pk(cx:Cx)(rs:List ResultVar)(x:AV)(h' :List (Nat×Blk))(st:St):Prop:= ∃sl,aj cx st ⟨sl,h'⟩/\oz cx ⟨sl,h'⟩ rs=some x
def Tv(cx:Cx)(rs:List ResultVar)(x:AV)(h' :List (Nat×Blk)):Ex->St->Prop
 | .normal,st=>Pk cx rs x h' st
 | .ret,st=>Pk cx rs x h' st
 | .exit _,_=>False
theorem mw{cx:Cx}(fz:Nat->List Nat)(hT:bl cx)(hm:cx.P.follows .mixedOrders=true){f:FuncId}{fn:Func}{c:Code}{args:List AV}{h0:List (Nat×Blk)}{x:AV}{h' :List (Nat×Blk)}(hf:cx.P.funcs[f]? =some fn)(hname:(fn.name== "runtime.NumGoroutine")=false)(hb:fn.body=some c)
 (hargs:args.length<=fn.ntmps) (hnt:fn.ntmps<=100000) (h:vc cx fn.ntmps fz c (Tv cx fn.results.toList x h') ⟨gH 0 args,h0⟩):FnH cx f args h0 x h' :=by
 refine⟨⟨fn,hf,hname,by rw[hb];rfl⟩,λO w σ vs hO hG hGO hap hho hsz hrep=>?_⟩;refine calls_of_wp hf hb ?_
 let E:Env:=⟨λb=>iH h0 σ b\/w.heap.size<=b,O,w,fn.ntmps,λq=>if q∈eH h0 then(match σ q with| .pointer (some ⟨B,0,none⟩)=>some B|_=>none)else none,[]⟩
 have hfixv:∀q B,E.fix q=some B->q∈eH h0/\σ q= .pointer (some ⟨B,0,none⟩):=by
  intro q B hq;have hq:(if q∈eH h0 then(match σ q with| .pointer (some ⟨B,0,none⟩)=>some B|_=>none)else none)=some B:=hq;split at hq
  . rename_i hm;split at hq
    . rename_i B' e;cases hq;exact⟨hm,e⟩
    . cases hq
  . cases hq
 have hs:Sim cx E ⟨gH 0 args,h0⟩ {tmps:=vs++Array.replicate (fn.ntmps-vs.size) Go.undef,defers:=[]} w:=by
  refine⟨σ,⟨rfl,rfl,rfl,Nat.le_refl _,λ_ _=>rfl⟩,λb hb=> .inr hb,λb hb hF=>?_,rfl,?_,λt=>?_,⟨λs b hs=>(hho.blk s b hs).inF λg hg=> .inl ⟨s,aC.2 ⟨b,hs⟩,hg⟩,hho.inj⟩,hG,λg cells hg=>⟨λhF=>?_,(hGO g cells hg).1⟩,λq0 B hB=>?_⟩
  . rcases hF with hF|hF
    . exact hap b hb hF
    . have:=hO b hb;omega
  . show(vs++Array.replicate _ Go.undef).size=fn.ntmps
    simp;omega
  . have hg:St.get ⟨gH 0 args,h0⟩ t=match args[t]? with|some v=>v|none=> .undef:=by
     unfold St.get;rw[mX,if_pos (Nat.zero_le _),Nat.sub_zero];cases args[t]? <;> rfl
    rw[hg];cases ht:args[t]? with
    |none=>exact .undef _
    |some x =>
     have hlt:t<vs.size:=by rw[hsz];exact(ar.1 ht).1
     have:(vs++Array.replicate (fn.ntmps-vs.size) Go.undef).getD t Go.undef=vs.getD t Go.undef:=by simp[Array.getElem?_append,hlt]
     rw[this];exact hrep t x ht
  . rcases hF with hF|hF
    . exact(hGO g cells hg).2 hF
    . have:=(hG g cells hg).1;omega
  . obtain⟨h1,h2⟩:=hfixv q0 B hB;exact⟨⟨hnt,(pq h1).1⟩,λ_=>h2⟩
 refine zI hT hm (E:=E) rfl c h hs λex st' a' w' hq hs' =>?_
 have key : ∀ st', Pk cx fn.results.toList x h' st' -> Sim cx E st' a' w' -> a'.defers = [] /\ ∃ u, (results fn a'.tmps).run cx.P w' = .ok u w' /\ ∃ u0 σ', Ending.returned u = .returned u0 /\ bC (fun b => iH h0 σ b \/ w.heap.size <= b) w w' /\ Holds w' (fun b => iH h0 σ b \/ w.heap.size <= b) O h' σ' /\
     (∀s∈eH h0,live h' s->σ' s=σ s)/\au w' O (live h') σ' x u0:=by
  rintro st2 ⟨sl,hw,hr⟩ hs1;obtain⟨τ',hs3⟩:=hw E a' w' hs1;obtain⟨u,hu,hru⟩:=Ho hT hs3 hr;refine⟨hs3.defers,u,hu,u,τ',rfl,hs3.frame,hs3.holds,λs hs hl=>?_,hru⟩;obtain⟨_,cells,hc⟩:=pq hs;obtain⟨B,cur,t,e1,_⟩:=hho.blk s _ hc;have:E.fix s=some B:=by
   show(if s∈eH h0 then(match σ s with| .pointer (some ⟨B,0,none⟩)=>some B|_=>none)else none)=some B
   rw[if_pos hs,e1];rfl
  rw[(hs3.fix s B this).2 hl,e1]
 cases ex with
 |normal=>exact key st' hq hs'
 |ret=>exact key st' hq hs'
 |exit id=>exact hq.elim
theorem aj.oP{cx:Cx}{st:St}(k j s sz:Nat)(cells:List AV)(e:TypeId)(sz' :Nat)(hb0:find st.heap k=some (.box cells))(hj0:cells[j]? =some (.nil sz))(h2:find st.heap s=none)(h3:0<sz')(h4:Nat.blt s 100000=true:=by rfl) :
 aj cx st ⟨st.slots,(s,.row e sz' [])::(k,.box (cells.set j (.own s)))::st.heap⟩:=by
 rintro E a w ⟨σ,hs⟩;have hn:¬live st.heap s:=by unfold live;rw[h2];simp
 have hks:k≠s:=λe=>by rw[e,h2]at hb0;cases hb0
 let σ' :Nat->Value:=λx=>if x=s then .slice none 0 0 else σ x
 have e1:σ' s= .slice none 0 0:=if_pos rfl;have e2:∀x,live st.heap x->σ' x=σ x:=λx hl=>if_neg λ(e:x=s)=>hn (e ▸ hl)
 have hL:∀x,live ((s,Blk.row e sz' [])::(k,Blk.box (cells.set j (.own s)))::st.heap) x ↔ x=s\/live st.heap x:=λx=>by
  have:=cd (bs:=[(s,Blk.row e sz' [])]) (h:=(k,Blk.box (cells.set j (.own s)))::st.heap) (s:=x);rw[cy]at this;refine this.trans (or_congr_right ?_);have:=cd (bs:=[(k,Blk.box (cells.set j (.own s)))]) (h:=st.heap) (s:=x);rw[cy]at this;refine this.trans ⟨λh=>?_,.inr⟩;rcases h with rfl|h
  . exact aC.2 ⟨_,hb0⟩
  . exact h
 have hk:aQ w w (Own E.O (live st.heap) σ) (Own E.O (live ((s,Blk.row e sz' [])::(k,Blk.box (cells.set j (.own s)))::st.heap)) σ'):=aQ.less λb hb=>by
  rcases hb with hb|⟨x,hl,hx⟩
  . exact .inl hb
  . rcases (hL x).1 hl with rfl|hl
    . rw[e1]at hx;cases hx
    . rw[e2 x hl]at hx;exact .inr ⟨x,hl,hx⟩
 have hss:∀x,live st.heap x->live ((s,Blk.row e sz' [])::(k,Blk.box (cells.set j (.own s)))::st.heap) x/\σ' x=σ x:=λx hl=>⟨(hL x).2 (.inr hl),e2 x hl⟩
 refine⟨σ',hs.frame,hs.new,hs.apart,hs.defers,hs.nt,λq=>(hs.slots q).mono hk hss,⟨λx b hb=>?_,λx y b l l' f f' =>?_⟩,hs.glob,hs.globF,λq0 B hB=>⟨(hs.fix q0 B hB).1,λh=>?_⟩⟩
 . have hb' :find ((s,Blk.row e sz' [])::(k,Blk.box (cells.set j (.own s)))::st.heap) x=some b:=hb;rw[fF]at hb';split at hb'
   . rename_i hx;subst hx;cases hb';exact⟨[],by rw[e1];exact World.ownsRow_nil w 0 e sz',(λb hb=>by rw[e1]at hb;cases hb),⟨h3,λe=>by cases e⟩,λr hr=>by simp at hr,λi r j d hi=>by simp at hi⟩
   . rw[fF]at hb';split at hb'
     . rename_i hx;subst hx;cases hb';have hl:live st.heap k:=aC.2 ⟨_,hb0⟩;have hold:cg w E.F E.O (live st.heap) σ k (.box cells):=hs.holds.blk k _ hb0;have hnew:cg w E.F E.O _ σ' k (.box cells):=hold.mono hk hss hl λg _=>rfl
       obtain⟨b,cur,t,k1,k2,k3,k4,k5⟩:=hnew;refine⟨b,cur,t,k1,k2,k3,by rw[List.length_set];exact k4,λi c hi=>?_⟩;by_cases hij:j=i
       . subst hij;have hlt:j<cells.length:=(ar.1 hj0).1;rw[List.getElem?_set_self hlt]at hi;cases hi;refine⟨.inl rfl,?_⟩;have hr:=(k5 j _ hj0).2;have:cur.getD j Go.undef=σ' s:=by rw[e1];generalize cur.getD j Go.undef=u at hr;cases hr;rfl
         rw[this];exact .own s ((hL s).2 (.inl rfl))
       . rw[List.getElem?_set_ne hij]at hi;exact k5 i c hi
     . have hl:live st.heap x:=aC.2 ⟨b,hb'⟩;exact(hs.holds.blk x b hb').mono hk hss hl λg _=>rfl
 . rcases (hL x).1 l with rfl|l
   . rw[e1]at f;cases f
   . rcases (hL y).1 l' with rfl|l'
     . rw[e1]at f';cases f'
     . rw[e2 x l]at f;rw[e2 y l']at f';exact hs.holds.inj x y b l l' f f'
 . rcases (hL _).1 h with e|h
   . have hq0:=(hs.fix q0 B hB).1.2;have:s<100000:=Nat.lt_of_succ_le (ag h4);omega
   . rw[e2 _ h];exact(hs.fix q0 B hB).2 h
theorem aj.pM{cx:Cx}{st:St}(t sz:Nat)(h:st.get t= .nil sz):aj cx st ⟨(t,.d (.slice sz []))::st.slots,st.heap⟩:=by
 rintro E a w ⟨σ,hs⟩;refine⟨σ,hs.frame,hs.new,hs.apart,hs.defers,hs.nt,λq=>?_,hs.holds,hs.glob,hs.globF,hs.fix⟩;show au w E.O (live st.heap) σ (St.get ⟨(t,.d (.slice sz []))::st.slots,st.heap⟩ q) _
 by_cases hq:t=q
 . subst hq;have hr:=hs.slots t;rw[h]at hr;have hv:St.get ⟨(t,AV.d (.slice sz []))::st.slots,st.heap⟩ t= .d (.slice sz []):=by simp[St.get,aJ]
   rw[hv];exact .d _ _ (gK (v:= .nil sz) rfl hr)
 . have hv:St.get ⟨(t,AV.d (.slice sz []))::st.slots,st.heap⟩ q=st.get q:=by simp[St.get,aS _ _ hq]
   rw[hv];exact hs.slots q
end NQ
