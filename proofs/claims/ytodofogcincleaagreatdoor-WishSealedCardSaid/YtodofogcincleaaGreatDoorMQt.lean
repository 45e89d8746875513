/-
  Merged texts.
-/
import Derived.Test.YtodofogcincleaaGreatDoorMQr
import Derived.Scope
set_option linter.all false
namespace NQ
open Go Go.RowKit
inductive Ex where
 |normal
 |exit (id:Nat)
 |ret
def Ex.out:Ex->Exit
 | .normal=> .normal
 | .exit id=> .exit id
 | .ret=> .ret
def aF(cx:Cx)(st st' :St):Prop:= ∀(E:Env) a w,Sim cx E st a w->Sim cx E st' a w
theorem aF.refl{cx:Cx}(st:St):aF cx st st:=λ_ _ _ h=>h
theorem aF.trans{cx:Cx}{a b c:St}(h:aF cx a b)(k:aF cx b c):aF cx a c:=λE x w hs=>k E x w (h E x w hs)
def xJ(cx:Cx)(nt:Nat)(fr:List Nat)(ops:Array Oper)(draw:Bool)(Q:St->Prop)(st:St):Prop :=
 (match draw with
  |false=>(match cD 88888 fr with
   |true=>seqB cx nt ops.toList ops.toList Q (st.bw fr)
   |false=>oP cx nt false ops.toList ops.toList Q (st.bw fr))
  |true=>(match cD 99999 fr with
   |true=>oG cx nt ops.toList Q (ops.size+1) [] (st.bw fr)
   |false=>(match cD 66666 fr with
    |true=>bA ops.toList=true/\jM cx nt ops.toList Q (ops.size+1) [] [] (st.bw fr)
    |false=>ID cx nt ops.toList Q (st.bw fr))))
def vc(cx:Cx)(nt:Nat)(fz:Nat->List Nat):Code->(Ex->St->Prop)->St->Prop
 | .skip,Q,st=>Q .normal st
 | .label _,Q,st=>Q .normal st
 | .seq a b,Q,st=>vc cx nt fz a (λe s=>match e with| .normal=>vc cx nt fz b Q s| .exit id=>Q (.exit id) s| .ret=>Q .ret s) st
 | .cond c a b,Q,st=>(match st.ev cx c with
  | .d (.bool t)=>qv t (vc cx nt fz a Q st) (vc cx nt fz b Q st)
  | .maybe p=>(p=true->vc cx nt fz a Q st)/\vc cx nt fz b Q st
  |_=>False)
 | .block id body,Q,st=>vc cx nt fz body (λe s=>match e with| .normal=>Q .normal s| .exit j=>(match Nat.beq j id with|true=>Q .normal s|false=>Q (.exit j) s)| .ret=>Q .ret s) st
 | .loop body, Q, st => ∃ (α : Type) (f : α -> St) (J : α -> Prop) (μ : α -> Nat), (∃ x, J x /\ aF cx st (f x)) /\
     ∀x,J x->vc cx nt fz body (λe s=>match e with| .normal=> ∃y,J y/\μ y<μ x/\aF cx s (f y)| .exit j=>Q (.exit j) s| .ret=>Q .ret s) (f x)
 | .exit id,Q,st=>Q (.exit id) st
 | .ret,Q,st=>Q .ret st
 | .region id ops draw,Q,st=>(match cD 55555 (fz id)with
  |true=> ∃st',aF cx st st' /\xJ cx nt (fz id) ops draw (Q .normal) st'
  |false=>xJ cx nt (fz id) ops draw (Q .normal) st)
 | .scope c,Q,st=>vc cx nt fz c Q st
 |_,_,_=>False
theorem CC{cx:Cx}{nt:Nat}{fz:Nat->List Nat}(hT:ba cx)(hm:cx.P.follows .mixedOrders=true){E:Env}(hn:E.nt=nt):∀(c:Code) {Q:Ex->St->Prop} {st:St} {a:Act} {w:World} {R:Exit->Act->World->Prop},vc cx nt fz c Q st->Sim cx E st a w ->
 (∀e st' a' w',Q e st' ->Sim cx E st' a' w' ->R e.out a' w')->c.wp cx.P R a w:=by
 intro c;induction c with
 |skip=>intro Q st a w R h hs hR;exact wp_skip (hR .normal st a w h hs)
 |label l=>intro Q st a w R h hs hR;exact wp_label (hR .normal st a w h hs)
 |exit id=>intro Q st a w R h hs hR;exact wp_exit (hR (.exit id) st a w h hs)
 |ret=>intro Q st a w R h hs hR;exact wp_ret (hR .ret st a w h hs)
 |seq x y ihx ihy =>
  intro Q st a w R h hs hR;refine wp_seq (ihx (R:=Exit.then (y.wp cx.P R) R) h hs λe st' a' w' hq hs' =>?_);cases e with
  |normal=>exact ihy hq hs' hR
  |exit id=>exact hR (.exit id) st' a' w' hq hs'
  |ret=>exact hR .ret st' a' w' hq hs'
 |cond c x y ihx ihy =>
  intro Q st a w R h hs hR;simp only[vc]at h;split at h
  . rename_i t ht;have hr:a.eval c= .bool t:=by
     obtain⟨σ,hs⟩:=hs;have:=hs.ev (St.le.refl st) c;rw[ht]at this;exact this.bool
    cases t with
    |true=>exact wp_cond_true hr (ihx h hs hR)
    |false=>exact wp_cond_false hr (ihy h hs hR)
  . rename_i p ht;have hr:∃t,a.eval c= .bool t/\(t=true->p=true):=by
     obtain⟨σ,hs⟩:=hs;have:=hs.ev (St.le.refl st) c;rw[ht]at this;generalize a.eval c=u at this;cases this with|maybe _ b hb=>exact⟨b,rfl,hb⟩
    obtain⟨t,hr,hp⟩:=hr;cases t with
    |true=>exact wp_cond_true hr (ihx (h.1 (hp rfl)) hs hR)
    |false=>exact wp_cond_false hr (ihy h.2 hs hR)
  . exact h.elim
 |block id body ih =>
  intro Q st a w R h hs hR;refine wp_block (ih (R:=Exit.inBlock id R) h hs λe st' a' w' hq hs' =>?_);cases e with
  |normal=>exact hR .normal st' a' w' hq hs'
  |exit j =>
   dsimp only at hq;split at hq
   . rename_i hj;have hj:=aO hj;simp only[Ex.out,Exit.inBlock,hj,if_true];exact hR .normal st' a' w' hq hs'
   . rename_i hj;have hj:j≠id:=λe=>by subst e;simp at hj
     simp only[Ex.out,Exit.inBlock,hj,if_false];exact hR (.exit j) st' a' w' hq hs'
  |ret=>exact hR .ret st' a' w' hq hs'
 |loop body ih =>
  intro Q st a w R h hs hR;obtain⟨α,f,J,μ,⟨x,hx,hw⟩,hround⟩:=h;refine wp_loop_ghost (λn a w=> ∃y,J y/\μ y=n/\Sim cx E (f y) a w) (μ x) ⟨x,hx,rfl,hw E a w hs⟩ ?_;rintro n a w ⟨y,hy,rfl,hs'⟩;refine ih (hround y hy) hs' λe st' a' w' hq hs'' =>?_
  cases e with
  |normal =>
   obtain⟨z,hz,hlt,hw'⟩:=hq;exact⟨μ z,hlt,z,hz,rfl,hw' E a' w' hs''⟩
  |exit j=>exact hR (.exit j) st' a' w' hq hs''
  |ret=>exact hR .ret st' a' w' hq hs''
 |region id ops draw =>
  intro Q st a w R h hs hR;simp only[vc]at h;have key:∀{st:St},xJ cx nt (fz id) ops draw (Q .normal) st->Sim cx E st a w->(Code.region id ops draw).wp cx.P R a w:=by
   intro st h hs;unfold xJ at h;cases draw with
   |false =>
    simp only at h;cases hb:cD 88888 (fz id)with
    |true=>rw[hb]at h;exact wp_region_list (ji hT hn ops.toList h (hs.bw _) λst' a' w' hk hs' =>hR .normal st' a' w' hk hs')
    |false=>rw[hb]at h;exact wp_region_list (pF hT hn ops.toList h (hs.bw _) λst' a' w' hk hs' =>hR .normal st' a' w' hk hs')
   |true =>
    simp only at h;cases hany:cD 99999 (fz id)with
    |true=>rw[hany]at h;exact GA hT hm hn h (hs.bw _) λst' a' w' hk hs' =>hR .normal st' a' w' hk hs'
    |false =>
     rw[hany]at h;simp only at h;cases hv:cD 66666 (fz id)with
     |true=>rw[hv]at h;exact Fc hT hm hn h.1 h.2 (hs.bw _) λst' a' w' hk hs' =>hR .normal st' a' w' hk hs'
     |false=>rw[hv]at h;exact Dv hT hm hn h (hs.bw _) λst' a' w' hk hs' =>hR .normal st' a' w' hk hs'
  cases hw:cD 55555 (fz id)with
  |true=>rw[hw]at h;obtain⟨st',h1,h2⟩:=h;exact key h2 (h1 E a w hs)
  |false=>rw[hw]at h;exact key h hs
 |scope c ih =>
  intro Q st a w R h hs hR;refine wp_scope_straight (ih (R:=Exit.noGoto R) h hs λe st' a' w' hq hs' =>?_);cases e <;> exact hR _ st' a' w' hq hs'
 |_=>intro Q st a w R h;exact h.elim
def CB:Nat->Code->Code
 |0,c=>c
 |n+1,.seq _ b=>CB n b
 |_+1,c=>c
def AI(cx:Cx)(st:St):List ResultVar->Option (List AV)
 |[]=>some []
 | .tmp t::r=>(match nd (st.get t),AI cx st r with|some v,some vs=>some (v::vs)|_,_=>none)
 | .cell s t::r=>(match st.get s with
  | .ptr b off=>(match find st.heap b with
   |some (.box cells)=>(match takeN cx t (cells.drop off),AI cx st r with|some v,some vs=>some (v::vs)|_,_=>none)
   |_=>none)
  |_=>none)
def lG(cx:Cx)(st:St)(rs:List ResultVar):Option AV :=
 match AI cx st rs with
 |some [v]=>some v
 |some vs=>some (.tuple vs)
 |none=>none
def gT(i:Nat):List D->List (Nat×AV)
 |[]=>[]
 |x::t=>(i,x.dB)::gT (i+1) t
def Pz(st:St):AV->Option AV
 | .tuple vs=>(match bN (fU st) vs with|some xs=>some (.tuple (xs.map D.dB))|none=>none)
 |v=>(match fU st v with|some x=>some x.dB|none=>none)
def OK(cx:Cx)(rs:List ResultVar)(st:St):Option AV:=match lG cx st rs with|some v=>Pz st v|none=>none
def JA(cx:Cx)(rs:List ResultVar)(v:AV)(bs:List (Nat×Blk))(st:St):Prop:=(bs=[]/\OK cx rs st=some v)\/(∃st',aF cx st st' /\st'.heap=bs/\lG cx st' rs=some v) \/
 ∃v0,lG cx st rs=some v0/\ ∀(E:Env) σ a w u,bq cx E st σ a w->au w E.O (live st.heap) σ v0 u-> ∃τ,Holds w E.F E.O bs τ/\au w E.O (live bs) τ v u
theorem al{cx:Cx}{rs:List ResultVar}{v x:AV}{st:St}(h:OK cx rs st=some x)(e:x=v):JA cx rs v [] st:= .inl ⟨rfl,e ▸ h⟩
def fnQ(cx:Cx)(rs:List ResultVar)(v:AV)(bs:List (Nat×Blk)):Ex->St->Prop
 | .normal,st=>JA cx rs v bs st
 | .ret,st=>JA cx rs v bs st
 | .exit _,_=>False
theorem oH:∀(i:Nat) (l:List D) (t:Nat),find (gT i l) t=if i<=t then(l[t-i]?).map D.dB else none
 |i,[],t=>by simp[gT,find]
 |i,x::l,t=>by
  simp only[gT];by_cases h:i=t
  . subst h;rw[aP];simp
  . rw[aQ _ _ h,oH (i+1) l t];by_cases hl:i<t
    . rw[if_pos (by omega),if_pos (by omega)];obtain⟨q,hq⟩:∃q,t-i=q+1:=⟨t-i-1,by omega⟩
      rw[hq,show t-(i+1)=q by omega];rfl
    . rw[if_neg (by omega),if_neg (by omega)]
def tr(tmps:Array Value):ResultVar->Sem Value
 | .tmp t=>pure (tmps.getD t Go.undef)
 | .cell a t=>do loadVar t (<- asAddr (tmps.getD a Go.undef))
theorem zi(fn:Func)(tmps:Array Value):results fn tmps=(do let vs <- fn.results.mapM (tr tmps);pure (if h:vs.size=1 then vs[0]else .tuple vs)):=by
 unfold results
 congr 1
theorem nI{cx:Cx}(hT:ba cx){E:Env}{st:St}{σ:Nat->Value}{a:Act}{w:World}(hs:bq cx E st σ a w):∀(rs:List ResultVar) (vs:List AV),AI cx st rs=some vs ->
 ∃us:List Value,(rs.mapM (tr a.tmps)).run cx.P w= .ok us w/\us.length=vs.length /\
  ∀(j:Nat) c,vs[j]? =some c->au w E.O (live st.heap) σ c (us.getD j Go.undef)
 |[],vs,h=>by cases h;exact⟨[],by simp,rfl,λj c hj=>by simp at hj⟩
 | .tmp t::rs,vs,h=>by
  simp only[AI]at h;split at h
  . rename_i v vs' hv hvs;cases h;obtain⟨us,h1,h2,h3⟩:=nI hT hs rs vs' hvs;have h0:(tr a.tmps (.tmp t)).run cx.P w= .ok (a.tmps.getD t Go.undef) w:=rfl;refine⟨a.tmps.getD t Go.undef::us,by simp only[List.mapM_cons,Sem.run_bind,h0,Result.andThen,h1,Sem.run_pure],by simp[h2],λj c hj=>?_⟩;cases j with
    |zero=>simp at hj;subst hj;have:=hs.slots t;rw[<- mn hv]at this;exact this
    |succ j=>simp at hj;simpa using h3 j c hj
  . cases h
 | .cell b t::rs,vs,h=>by
  simp only[AI]at h;split at h
  . rename_i s off hb;split at h
    . rename_i cells hf;split at h
      . rename_i v vs' hv hvs;cases h;obtain⟨us,h1,h2,h3⟩:=nI hT hs rs vs' hvs;have hr:=hs.slots b;rw[hb]at hr;obtain⟨g,cur,tt,e1,e2,e3,e4,e5⟩:=hs.holds.blk s _ hf;have hval:a.tmps.getD b Go.undef= .pointer (some ⟨g,off,none⟩):=by
         generalize a.tmps.getD b Go.undef=u at hr
         cases hr with|ptr _ _ _ hL hσ=>rw[hσ]at e1;cases e1;rfl
        obtain⟨z,hz,hrz⟩:=lA (w:=w) (O:=E.O) (L:=live st.heap) (σ:=σ) hT (nN hv) (b:=g) (o:=off) (λj=>cur.getD (off+j) Go.undef) (λj c hj=>by
         rw[List.getElem?_drop]at hj;have hlt:off+j<cur.size:=by have:=(aq.1 hj).1;omega
         simp[World.cell?,e3,hlt]) (λj c hj=>by rw[List.getElem?_drop]at hj;exact(e5 _ c hj).2)
        have hz' :(loadVar t ⟨g,off,none⟩).run cx.P w= .ok z w:=by simpa [Instr.loadAt,Instr.sureAddr] using hz
        have h0:(tr a.tmps (.cell b t)).run cx.P w= .ok z w:=by simp only[tr,hval,asAddr,Sem.run_bind,Sem.run_pure,Result.andThen,hz']
        refine⟨z::us,by simp only[List.mapM_cons,Sem.run_bind,h0,Result.andThen,h1,Sem.run_pure],by simp[h2],λj c hj=>?_⟩;cases j with
        |zero=>simp at hj;subst hj;exact hrz
        |succ j=>simp at hj;simpa using h3 j c hj
      . cases h
    . cases h
  . cases h
theorem fC{cx:Cx}(fz:Nat->List Nat)(hT:ba cx)(hm:cx.P.follows .mixedOrders=true){f:FuncId}{fn:Func}{c:Code}{args:List D}{v:AV}{bs:List (Nat×Blk)}(hf:cx.P.funcs[f]? =some fn)(hname:(fn.name== "runtime.NumGoroutine")=false)(hb:fn.body=some c)
 (hargs:args.length<=fn.ntmps) (h:vc cx fn.ntmps fz c (fnQ cx fn.results.toList v bs) ⟨gT 0 args,[]⟩):Fn cx f args v bs:=by
 refine⟨⟨fn,hf,hname,by rw[hb];rfl⟩,λO w vs hO hG hGO hsz hrep=>?_⟩;refine calls_of_wp hf hb ?_
 let E:Env:=⟨(w.heap.size<= ·),O,w,fn.ntmps,λ_=>none,[]⟩
 have hs:Sim cx E ⟨gT 0 args,[]⟩ {tmps:=vs++Array.replicate (fn.ntmps-vs.size) Go.undef,defers:=[]} w:=by
  refine⟨λ_=> .nilFunc,⟨rfl,rfl,rfl,Nat.le_refl _,λ_ _=>rfl⟩,λb hb=>hb,λb hb=>Nat.not_le.2 (hO b hb),rfl,?_,λt=>?_,⟨λs b hs=>by simp[find]at hs,λs s' b hs=>by simp[live,find]at hs⟩,hG,λg cells hg=>⟨Nat.not_le.2 (hG g cells hg).1,hGO g cells hg⟩,λq0 B hB=>by cases hB⟩
  . show(vs++Array.replicate (fn.ntmps-vs.size) Go.undef).size=fn.ntmps
    simp;omega
  . show au w O (live []) _ (St.get ⟨gT 0 args,[]⟩ t) _
    have hOwn:∀b,Own O (live []) (λ_=>Value.nilFunc) b->O b:=λb hb=>by
     rcases hb with hb|⟨s,hl,_⟩
     . exact hb
     . simp[live,find]at hl
    simp only[St.get,oH,Nat.zero_le,if_true,Nat.sub_zero];cases ht:args[t]? with
    |none=>exact .undef _
    |some x =>
     have hlt:t<vs.size:=by rw[hsz];exact(aq.1 ht).1
     have:(vs++Array.replicate (fn.ntmps-vs.size) Go.undef).getD t Go.undef=vs.getD t Go.undef:=by simp[Array.getElem?_append,hlt]
     rw[this];exact gX ((hrep t x ht).mono (aU.less hOwn))
 refine CC hT hm (E:=E) rfl c h hs λe st' a' w' hq hs' =>?_
 have key:∀st',JA cx fn.results.toList v bs st' ->Sim cx E st' a' w' ->a'.defers=[]/\ ∃u,(results fn a'.tmps).run cx.P w' = .ok u w' /\ ∃u' τ,Ending.returned u= .returned u' /\Below w.heap.size w w' /\Holds w' (w.heap.size<= ·) O bs τ/\au w' O (live bs) τ v u' :=by
  intro st' hq hs';have run:∀{st2:St} {τ:Nat->Value} {v0:AV},bq cx E st2 τ a' w' ->lG cx st2 fn.results.toList=some v0->Below w.heap.size w w' /\a'.defers=[]/\ ∃u,(results fn a'.tmps).run cx.P w' = .ok u w' /\au w' O (live st2.heap) τ v0 u:=by
   intro st2 τ v0 hs2 hr;unfold lG at hr;have hbel:Below w.heap.size w w' :=⟨hs2.frame.os,hs2.frame.tape,hs2.frame.output,hs2.frame.size,λk hk=>hs2.frame.block k (Nat.not_le.2 hk)⟩
   have hres:∀us:List Value,(fn.results.toList.mapM (tr a'.tmps)).run cx.P w' = .ok us w' ->(results fn a'.tmps).run cx.P w' = .ok (if h:us.toArray.size=1 then us.toArray[0]else .tuple us.toArray) w' :=λus hus=>by
    have hm:(fn.results.mapM (tr a'.tmps)).run cx.P w' = .ok us.toArray w' :=by
     rw[Array.mapM_eq_mapM_toList];simp[hus]
    rw[zi];simp only[Sem.run_bind,hm,Result.andThen,Sem.run_pure]
   refine⟨hbel,hs2.defers,?_⟩;split at hr
   . rename_i v1 hv;cases hr;obtain⟨us,h1,h2,h3⟩:=nI hT hs2 _ _ hv
     match us,h2 with
     |[u],_=>exact⟨u,by rw[hres _ h1];simp,by simpa using h3 0 _ rfl⟩
   . rename_i vs0 hne hv;cases hr;obtain⟨us,h1,h2,h3⟩:=nI hT hs2 _ _ hv;have hl:¬us.length=1:=λe=>by
      rw[h2]at e
      match vs0,e with
      |[x],_=>exact hne x rfl
     exact⟨.tuple us.toArray,by rw[hres _ h1];simp[hl],.tuple _ _ (by simp[h2]) λj c hj=>by simpa [List.getD] using h3 j c hj⟩
   . cases hr
  rcases hq with ⟨rfl,hr⟩|⟨st2,hw,rfl,hr⟩|⟨v0,hr,hk⟩
  . obtain⟨τ,hs2⟩:=hs';unfold OK at hr;split at hr
    . rename_i v0 hv0;obtain⟨hbel,hdef,u,hu,hru⟩:=run hs2 hv0;refine⟨hdef,u,hu,u,λ_=> .nilFunc,rfl,hbel,⟨λs b hs=>by simp[find]at hs,λs s' b hs=>by simp[live,find]at hs⟩,?_⟩;have lift:∀{x:D} {z:Value},Rep w' O x z->au w' O (live []) (λ_=>Value.nilFunc) x.dB z:=λh=>gX (h.mono (aU.less λb hb=>by
       rcases hb with hb|⟨s,hl,_⟩
       . exact hb
       . simp[live,find]at hl))
      unfold Pz at hr;split at hr
      . split at hr
        . rename_i xs hxs;cases hr;obtain⟨l1,l2⟩:=bQ hxs;cases hru with|tuple _ us hl hh =>
           refine .tuple _ _ (by simp[hl,l1]) λj c hj=>?_
           rw[aN]at hj;cases hx:xs[j]? with
           |none=>rw[hx]at hj;cases hj
           |some x =>
            rw[hx]at hj;cases hj;obtain⟨c0,hc0,hv⟩:=l2 j x hx;exact lift (vr hs2.holds hs2.apart hv (hh j c0 hc0))
        . cases hr
      . split at hr
        . rename_i x hx;cases hr;exact lift (vr hs2.holds hs2.apart hx hru)
        . cases hr
    . cases hr
  . obtain⟨τ,hs2⟩:=hw E a' w' hs';obtain⟨hbel,hdef,u,hu,hru⟩:=run hs2 hr;exact⟨hdef,u,hu,u,τ,rfl,hbel,hs2.holds,hru⟩
  . obtain⟨σ,hs2⟩:=hs';obtain⟨hbel,hdef,u,hu,hru⟩:=run hs2 hr;obtain⟨τ,h1,h2⟩:=hk E σ a' w' u hs2 hru;exact⟨hdef,u,hu,u,τ,rfl,hbel,h1,h2⟩
 cases e with
 |normal=>exact key st' hq hs'
 |ret=>exact key st' hq hs'
 |exit id=>exact hq.elim
theorem aM{cx:Cx}(hT:ba cx)(hm:cx.P.follows .mixedOrders=true){f:FuncId}{fn:Func}{c:Code}{args:List D}{v:AV}{bs:List (Nat×Blk)}(hf:cx.P.funcs[f]? =some fn)(hname:(fn.name== "runtime.NumGoroutine")=false)(hb:fn.body=some c)
 (hargs:args.length<=fn.ntmps) (h:vc cx fn.ntmps (λ_=>[]) c (fnQ cx fn.results.toList v bs) ⟨gT 0 args,[]⟩):Fn cx f args v bs:=fC (λ_=>[]) hT hm hf hname hb hargs h
def PJ:AV->Option AV
 | .tuple vs=>(match bN gF vs with|some xs=>some (.tuple (xs.map D.dB))|none=>none)
 |v=>(match gF v with|some x=>some x.dB|none=>none)
def OJ(cx:Cx)(rs:List ResultVar)(v:AV)(cells' :List D)(st:St):Prop :=
 ∃(fl:List Nat) (v0:AV) (cs:List AV),lG cx (st.bw fl) rs=some v0/\PJ v0=some v/\find (st.bw fl).heap 100000=some (.box cs)/\bN dI cs=some cells'
def SL(cx:Cx)(rs:List ResultVar)(v:AV)(cells' :List D):Ex->St->Prop
 | .normal,st=>OJ cx rs v cells' st
 | .ret,st=>OJ cx rs v cells' st
 | .exit _,_=>False
theorem nJ{cx:Cx}(hT:ba cx){E:Env}{fn:Func}{st2:St}{τ:Nat->Value}{a' :Act}{w' :World}{v0:AV}(hs2:bq cx E st2 τ a' w')(hr:lG cx st2 fn.results.toList=some v0) :
 ∃u,(results fn a'.tmps).run cx.P w' = .ok u w' /\au w' E.O (live st2.heap) τ v0 u:=by
 unfold lG at hr;have hres:∀us:List Value,(fn.results.toList.mapM (tr a'.tmps)).run cx.P w' = .ok us w' ->(results fn a'.tmps).run cx.P w' = .ok (if h:us.toArray.size=1 then us.toArray[0]else .tuple us.toArray) w' :=λus hus=>by
  have hm:(fn.results.mapM (tr a'.tmps)).run cx.P w' = .ok us.toArray w' :=by
   rw[Array.mapM_eq_mapM_toList];simp[hus]
  rw[zi];simp only[Sem.run_bind,hm,Result.andThen,Sem.run_pure]
 split at hr
 . rename_i v1 hv;cases hr;obtain⟨us,h1,h2,h3⟩:=nI hT hs2 _ _ hv
   match us,h2 with
   |[u],_=>exact⟨u,by rw[hres _ h1];simp,by simpa using h3 0 _ rfl⟩
 . rename_i vs0 hne hv;cases hr;obtain⟨us,h1,h2,h3⟩:=nI hT hs2 _ _ hv;have hl:¬us.length=1:=λe=>by
    rw[h2]at e
    match vs0,e with
    |[x],_=>exact hne x rfl
   exact⟨.tuple us.toArray,by rw[hres _ h1];simp[hl],.tuple _ _ (by simp[h2]) λj c hj=>by simpa [List.getD] using h3 j c hj⟩
 . cases hr
theorem IL{cx:Cx}(fz:Nat->List Nat)(hT:ba cx)(hm:cx.P.follows .mixedOrders=true){f:FuncId}{fn:Func}{c:Code}{cells args:List D}{v:AV}{cells' :List D}(hf:cx.P.funcs[f]? =some fn)(hname:(fn.name== "runtime.NumGoroutine")=false)(hb:fn.body=some c)
 (hargs:args.length+1<=fn.ntmps) (hnt:fn.ntmps<=100000) (h:vc cx fn.ntmps fz c (SL cx fn.results.toList v cells') ⟨(0,.ptr 100000 0)::gT 1 args,[(100000,.box (cells.map .d))]⟩):FnB cx f cells args v cells' :=by
 refine⟨⟨fn,hf,hname,by rw[hb];rfl⟩,λO w B cur t vs hO hG hGO hOB hB hcl hcells hsz hrep=>?_⟩;refine calls_of_wp hf hb ?_
 let E:Env:=⟨λb=>b=B\/w.heap.size<=b,λb=>O b/\b≠B,w,fn.ntmps,λq=>if q=100000 then some B else none,[]⟩
 let σ:Nat->Value:=λ_=> .pointer (some ⟨B,0,none⟩)
 have hBlt:B<w.heap.size:=hO B hOB;have hlive:∀s,live [(100000,Blk.box (cells.map .d))] s ↔ s=100000:=λs=>bH
 have hOwn:∀b,Own E.O (live [(100000,Blk.box (cells.map .d))]) σ b ↔ O b:=λb=>by
  constructor
  . rintro(⟨h,_⟩|⟨s,_,e⟩)
    . exact h
    . cases e;exact hOB
  . intro h;by_cases e:b=B
    . subst e;exact .inr ⟨100000,(hlive _).2 rfl,rfl⟩
    . exact .inl ⟨h,e⟩
 have hk:aU w w O (Own E.O (live [(100000,Blk.box (cells.map .d))]) σ):=aU.less λb hb=>(hOwn b).1 hb
 have hs:Sim cx E ⟨(0,.ptr 100000 0)::gT 1 args,[(100000,.box (cells.map .d))]⟩ {tmps:=(#[.pointer (some ⟨B,0,none⟩)]++vs)++Array.replicate (fn.ntmps-(#[Value.pointer (some ⟨B,0,none⟩)]++vs).size) Go.undef,defers:=[]} w:=by
  refine⟨σ,⟨rfl,rfl,rfl,Nat.le_refl _,λ_ _=>rfl⟩,λb hb=> .inr hb,λb hb hF=>?_,rfl,?_,λt=>?_,⟨λs b hs=>?_,λs s' b hs hs' _ _=>((hlive s).1 hs).trans ((hlive s').1 hs').symm⟩,hG,λg cells hg=>⟨λhF=>?_,λhO' =>hGO g cells hg hO'.1⟩,λq0 B' hB' =>by
   by_cases hq:q0=100000
   . subst hq;exact⟨⟨hnt,Nat.le_refl _⟩,λ_=>by cases hB';rfl⟩
   . exact absurd hB' (by show(if q0=100000 then some B else none)≠some B';rw[if_neg hq];simp)⟩
  . rcases hF with e|e
    . exact hb.2 e
    . have:=hO b hb.1;omega
  . show((#[Value.pointer (some ⟨B,0,none⟩)]++vs)++Array.replicate _ Go.undef).size=fn.ntmps
    simp;omega
  . rcases t with _|t
    . show au w E.O (live [(100000,Blk.box (cells.map .d))]) σ (.ptr 100000 0) _
      have:((#[Value.pointer (some ⟨B,0,none⟩)]++vs)++Array.replicate (fn.ntmps-(#[Value.pointer (some ⟨B,0,none⟩)]++vs).size) Go.undef).getD 0 Go.undef= .pointer (some ⟨B,0,none⟩):=by simp[Array.getElem?_append]
      rw[this];exact .ptr _ _ B ((hlive _).2 rfl) rfl
    . have hg:St.get ⟨(0,.ptr 100000 0)::gT 1 args,[(100000,Blk.box (cells.map .d))]⟩ (t+1)=match (args[t]?).map D.dB with|some v=>v|none=> .undef:=by
       unfold St.get;rw[aQ _ _ (by omega),oH,if_pos (by omega),Nat.add_sub_cancel];cases args[t]? <;> rfl
      rw[hg];cases ht:args[t]? with
      |none=>exact .undef _
      |some x =>
       have hlt:t<vs.size:=by rw[hsz];exact(aq.1 ht).1
       have:((#[Value.pointer (some ⟨B,0,none⟩)]++vs)++Array.replicate (fn.ntmps-(#[Value.pointer (some ⟨B,0,none⟩)]++vs).size) Go.undef).getD (t+1) Go.undef=vs.getD t Go.undef:=by simp[Array.getElem?_append,hlt]
       rw[this];exact gX ((hrep t x ht).mono hk)
  . have hs' :=(hlive s).1 (ax.2 ⟨b,hs⟩);subst hs';have hs:find [(100000,Blk.box (cells.map AV.d))] 100000=some b:=hs;rw[aP]at hs;cases hs;refine⟨B,cur,t,rfl,.inl rfl,hB,by simpa using hcl,λj c hj=>?_⟩;rw[aN]at hj;cases hc:cells[j]? with
    |none=>rw[hc]at hj;cases hj
    |some d=>rw[hc]at hj;cases hj;exact⟨.inl (hcells j d hc).1,.d _ _ ((hcells j d hc).2.mono hk)⟩
  . rcases hF with e|e
    . exact hGO g cells hg (e ▸ hOB)
    . have:=(hG g cells hg).1;omega
 refine CC hT hm (E:=E) rfl c h hs λe st' a' w' hq hs' =>?_
 have key : ∀ st', OJ cx fn.results.toList v cells' st' -> Sim cx E st' a' w' -> a'.defers = [] /\ ∃ u, (results fn a'.tmps).run cx.P w' = .ok u w' /\ ∃ u' cur' t', Ending.returned u = .returned u' /\ w'.os = w.os /\ w'.tape = w.tape /\ w'.output = w.output /\ w.heap.size <= w'.heap.size /\
     (∀k,k<w.heap.size->k≠B->w'.heap[k]? =w.heap[k]?)/\w'.heap[B]? =some (.cells cur' t' (0,0))/\cur'.size=cells'.length/\(∀(j:Nat) d,cells'[j]? =some d->d.one=true/\Rep w' O d (cur'.getD j Go.undef)) /\
     au w' O (λ_=>False) (λ_=> .nilFunc) v u' :=by
  rintro st' ⟨fl,v0,cs,hr,hpure,hbox,hview⟩ hs';obtain⟨τ,hs2⟩:=hs'.bw fl;generalize st'.bw fl=st2 at hr hbox hs2;have hl2:live st2.heap 100000:=ax.2 ⟨_,hbox⟩;have hτ:=(hs2.fix 100000 B (show(if (100000:Nat)=100000 then some B else none)=some B from if_pos rfl)).2 hl2;obtain⟨b,cur',t',g1,g2,g3,g4,g5⟩:=hs2.holds.blk 100000 _ hbox;rw[hτ]at g1;cases g1;obtain⟨u,hu,hru⟩:=nJ hT hs2 hr;have hback:aU w' w' (Own E.O (live st2.heap) τ) O:=aU.less λx hx=>by
   by_cases e:x=B
   . subst e;exact .inr ⟨100000,hl2,by rw[hτ];rfl⟩
   . exact .inl ⟨hx,e⟩
  have lift:∀{x:D} {z:Value},Rep w' (Own E.O (live st2.heap) τ) x z->au w' O (λ_=>False) (λ_=>Value.nilFunc) x.dB z:=λh=>gX ((h.mono hback).mono (aU.less λb hb=>by
   rcases hb with hb|⟨s,hl,_⟩
   . exact hb
   . exact hl.elim))
  obtain⟨m1,m2⟩:=bQ hview;refine⟨hs2.defers,u,hu,u,cur',t',rfl,hs2.frame.os,hs2.frame.tape,hs2.frame.output,hs2.frame.size,λk hk hne=>hs2.frame.block k λhF=>?_,g3,by rw[g4,m1],λj d hj=>?_,?_⟩
  . rcases hF with e|e
    . exact hne e
    . omega
  . obtain⟨cc,hcc,hfr⟩:=m2 j d hj;refine⟨?_,(gN hfr (g5 j cc hcc).2).mono hback⟩;have h1:=(g5 j cc hcc).1;cases cc <;> simp[dI]at hfr
    . subst hfr;rcases h1 with h1|h1
      . exact h1
      . cases h1
    . subst hfr;rfl
  . unfold PJ at hpure;split at hpure
    . split at hpure
      . rename_i xs hxs;cases hpure;obtain⟨l1,l2⟩:=bQ hxs;cases hru with|tuple _ us hl hh =>
         refine .tuple _ _ (by simp[hl,l1]) λj c hj=>?_
         rw[aN]at hj;cases hx:xs[j]? with
         |none=>rw[hx]at hj;cases hj
         |some x =>
          rw[hx]at hj;cases hj;obtain⟨c0,hc0,hv⟩:=l2 j x hx;exact lift (iC hv (hh j c0 hc0))
      . cases hpure
    . split at hpure
      . rename_i x hx;cases hpure;exact lift (iC hx hru)
      . cases hpure
 cases e with
 |normal=>exact key st' hq hs'
 |ret=>exact key st' hq hs'
 |exit id=>exact hq.elim
def zcB:AV->Value->Bool
 | .d (.int k n),.int k' n' =>decide (k=k')&&decide (n=n')
 | .d (.bool b),.bool b' =>b==b'
 | .d (.str s),.string t=>decide (t.data.toList=s)
 | .nil _,.slice none 0 0=>true
 | .d .nmap,.map none=>true
 | .undef,_=>true
 |_,_=>false
theorem Sv{c:AV}{v:Value}(h:zcB c v=true):iK c v:=by
 unfold zcB at h;split at h
 . simp at h;obtain⟨rfl,rfl⟩:=h;rfl
 . simp at h;subst h;rfl
 . rename_i s t;simp at h;show Value.string t= .string ⟨s.toArray⟩
   subst h;cases t;simp
 . rfl
 . rfl
 . trivial
 . cases h
def yk:List AV->List Value->Bool
 |[],[]=>true
 |c::t,v::r=>zcB c v&&yk t r
 |_,_=>false
theorem AY:∀{l:List AV} {r:List Value},yk l r=true->r.length=l.length/\ ∀(j:Nat) c,l[j]? =some c->iK c (r.getD j Go.undef)
 |[],[],_=>⟨rfl,λj c h=>by simp at h⟩
 |c::t,v::r,h=>by
  simp only[yk,aH]at h;obtain⟨h1,h2⟩:=AY h.2;refine⟨by simp[h1],λj x hj=>?_⟩;cases j with
  |zero=>simp at hj;subst hj;exact Sv h.1
  |succ j=>simp at hj;simpa using h2 j x hj
 |[],_::_,h=>by cases h
 |_::_,[],h=>by cases h
def Si(agg:Bool):Value->Bool
 | .agg _=>agg
 | .tuple _=>false
 |_=> !agg
def HD(P:Program)(t:TypeId)(ti:TI):Bool :=
 match P.info? t,P.underlying t with
 | some info, some desc => decide (kindOf desc = ti.kind) && Nat.beq info.size ti.size && Nat.beq info.bytes ti.bytes &&
     (match info.zero with|some z=>yk ti.zero z.cells.toList&&Nat.beq ti.size ti.zero.length&&Si ti.kind.isAgg z|none=>false)
 |_,_=>false
theorem Ka{cx:Cx}{tab:List (Nat×TI)}(hty:cx.ty=find tab)(h:(tab.all λp=>HD cx.P p.1 p.2)=true):ba cx:=by
 intro t ti ht;rw[hty]at ht;have hmem:∀(l:List (Nat×TI)),find l t=some ti->(t,ti)∈l:=by
  intro l;induction l with
  |nil=>intro h;cases h
  |cons p l ih =>
   obtain⟨k,x⟩:=p;intro h;by_cases e:k=t
   . subst e;rw[aP]at h;cases h;exact .head _
   . rw[aQ _ _ e]at h;exact .tail _ (ih h)
 have hc:=ay.1 h _ (hmem tab ht);unfold HD at hc;split at hc
 . rename_i info desc h1 h2;split at hc
   . rename_i z hz;simp only[aH,decide_eq_true_eq]at hc;obtain⟨⟨⟨c1,c2⟩,c3⟩,⟨c4,c5⟩,c6⟩:=hc;obtain⟨d1,d2⟩:=AY c4;refine⟨info,desc,z,h1,h2,c1,aO c2,aO c3,hz,by simpa using d1,aO c5,λj c hj=>by simpa [List.getD] using d2 j c hj,?_⟩;cases ha:ti.kind.isAgg <;> rw[ha]at c6 <;> cases z <;> first|rfl|(cases c6;done)|exact⟨rfl,_,rfl⟩
   . simp at hc
 . cases hc
def qC(P:Program):Nat->List Field->List K->Bool
 |_,[],[]=>true
 |i,f::fs,k::ks=>Nat.beq f.offset i&&(f.name != "_")&&(match P.underlying f.type with|some d=>decide (kindOf d=k)|none=>false)&&qC P (i+1) fs ks
 |_,_,_=>false
theorem uv{P:Program}:∀{i:Nat} {fs:List Field} {ks:List K},qC P i fs ks=true->fs.length=ks.length/\ ∀(j:Nat) f k,fs[j]? =some f->ks[j]? =some k->f.offset=i+j/\f.name≠ "_" /\ ∃desc,P.underlying f.type=some desc/\kindOf desc=k
 |_,[],[],_=>⟨rfl,λj f k h=>by simp at h⟩
 |_,[],_::_,h=>by cases h
 |_,_::_,[],h=>by cases h
 |i,f::fs,k::ks,h=>by
  simp only[qC,aH,bne_iff_ne]at h;obtain⟨⟨⟨h1,h2⟩,h3⟩,h4⟩:=h;obtain⟨a1,a2⟩:=uv h4;refine⟨by simp[a1],λj g l hg hl=>?_⟩;cases j with
  |zero =>
   simp at hg hl;subst hg;subst hl;refine⟨by have:=aO h1;omega,h2,?_⟩;split at h3
   . rename_i d hd;exact⟨d,hd,of_decide_eq_true h3⟩
   . cases h3
  |succ j =>
   simp at hg hl;obtain⟨b1,b2⟩:=a2 j g l hg hl;exact⟨by omega,b2⟩
def GQ(P:Program)(t:TypeId)(ks:List K):Bool :=
 match P.underlying t with
 |some (.struct fs)=>(P.stoodInHeld t==false)&&(P.eqGuardType P.depth t==false)&&qC P 0 fs.toList ks
 |_=>false
theorem IF{P:Program}{tab:List (Nat×List K)}(h:(tab.all λp=>GQ P p.1 p.2)=true):∀t ks,find tab t=some ks->xf P t ks:=by
 intro t ks ht;have hmem:∀(l:List (Nat×List K)),find l t=some ks->(t,ks)∈l:=by
  intro l;induction l with
  |nil=>intro h;cases h
  |cons p l ih =>
   obtain⟨k,x⟩:=p;intro h;by_cases e:k=t
   . subst e;rw[aP]at h;cases h;exact .head _
   . rw[aQ _ _ e]at h;exact .tail _ (ih h)
 have hc:=ay.1 h _ (hmem tab ht);unfold GQ at hc;split at hc
 . rename_i fs hfs;simp only[aH,beq_iff_eq]at hc;obtain⟨⟨c1,c2⟩,c3⟩:=hc;obtain⟨d1,d2⟩:=uv c3;exact⟨fs,hfs,c1,c2,d1,λi f k h1 h2=>by have:=d2 i f k h1 h2;rw[Nat.zero_add]at this;exact this⟩
 . cases hc
def vY(h:List (Nat×Blk)):AV->Bool
 | .own s=>(find h s).isSome
 | .ptr s _=>(find h s).isSome
 | .rptr s _ _ _=>(find h s).isSome
 | .tl s _ _=>(find h s).isSome
 | .omap s=>(find h s).isSome
 | .d _=>true
 | .nil _=>true
 | .undef=>true
 |_=>false
def refs(h:List (Nat×Blk)):AV->Bool
 | .agg cs=>cs.all (vY h)
 | .tuple vs=>vs.all (vY h)
 | .fn _ a b=>a.all (vY h)&&b.all (vY h)
 |v=>vY h v
def PK(h:List (Nat×Blk)):Blk->Bool
 | .box cells=>cells.all (refs h)
 | .arow _ _ rows=>rows.all λr=>r.all (refs h)
 | .dg m=>m.all λp=>refs h p.2
 |_=>true
def Cr(st:St)(h:List (Nat×Blk)):List (Nat×AV)->Prop
 |[]=>True
 |(t,v)::r=>(st.get t=v/\refs h v=true)/\Cr st h r
def pc(st:St)(h:List (Nat×Blk)):List (Nat×Blk)->Prop
 |[]=>True
 |(s,b)::r=>(find st.heap s=some b/\PK h b=true)/\pc st h r
section
variable {w:World} {O L:Nat->Prop} {σ:Nat->Value} {h:List (Nat×Blk)}
theorem eA(hL:∀s,live h s->L s){c:AV}{v:Value}(hr:au w O L σ c v)(hf:vY h c=true):au w O (live h) σ c v:=by
 have hk:aU w w (Own O L σ) (Own O (live h) σ):=aU.less λb hb=>by
  rcases hb with hb|⟨s,hs,e⟩
  . exact .inl hb
  . exact .inr ⟨s,hL s hs,e⟩
 cases hr with
 |undef=>exact .undef _
 |d x v hr=>exact .d _ _ (hr.mono hk)
 |nil=>exact .nil _
 |ptr s off b _ e=>exact .ptr s off b hf e
 |own s _=>exact .own s hf
 |rptr s z i o b n c o0 _ e=>exact .rptr s z i o b n c o0 hf e
 |tl s z i b n c o0 _ e=>exact .tl s z i b n c o0 hf e
 |omap s _=>exact .omap s hf
 |maybe=>cases hf
 |agg=>cases hf
 |tuple=>cases hf
 |fn=>cases hf
theorem jH(hL:∀s,live h s->L s){c:AV}{v:Value}(hr:au w O L σ c v)(hf:refs h c=true):au w O (live h) σ c v:=by
 cases hr with
 |agg cs vs hl hh=>exact .agg _ _ hl λj c hj=>eA hL (hh j c hj) (ay.1 hf c (ar hj))
 |tuple cs vs hl hh=>exact .tuple _ _ hl λj c hj=>eA hL (hh j c hj) (ay.1 hf c (ar hj))
 |fn f a b xs vs hx hl h1 h2 =>
  simp only[refs,aH]at hf;exact .fn _ _ _ _ _ hx hl (λj c hj=>eA hL (h1 j c hj) (ay.1 hf.1 c (ar hj))) (λj c hj=>eA hL (h2 j c hj) (ay.1 hf.2 c (ar hj)))
 |undef=>exact eA hL (.undef _) hf
 |d x v hr=>exact eA hL (.d x v hr) hf
 |nil z=>exact eA hL (.nil z) hf
 |ptr s off b l e=>exact eA hL (.ptr s off b l e) hf
 |own s l=>exact eA hL (.own s l) hf
 |rptr s z i o b n c o0 l e=>exact eA hL (.rptr s z i o b n c o0 l e) hf
 |tl s z i b n c o0 l e=>exact eA hL (.tl s z i b n c o0 l e) hf
 |omap s l=>exact eA hL (.omap s l) hf
 |maybe p b h=>exact eA hL (.maybe p b h) hf
end
theorem yG{st:St}{h:List (Nat×Blk)}:∀{l:List (Nat×AV)},Cr st h l-> ∀t v,find l t=some v->st.get t=v/\refs h v=true
 |[],_,t,v,e=>by cases e
 |(k,x)::r,hk,t,v,e=>by
  by_cases hh:k=t
  . subst hh;rw[aP]at e;cases e;exact hk.1
  . rw[aQ _ _ hh]at e;exact yG hk.2 t v e
theorem gH{st:St}{h:List (Nat×Blk)}:∀{l:List (Nat×Blk)},pc st h l-> ∀t v,find l t=some v->find st.heap t=some v/\PK h v=true
 |[],_,t,v,e=>by cases e
 |(k,x)::r,hk,t,v,e=>by
  by_cases hh:k=t
  . subst hh;rw[aP]at e;cases e;exact hk.1
  . rw[aQ _ _ hh]at e;exact gH hk.2 t v e
theorem aF.keep{cx:Cx}{st:St}{sl:List (Nat×AV)}{h:List (Nat×Blk)}(h1:Cr st h sl:=by repeat' (first|exact trivial|refine⟨⟨rfl,rfl⟩,?_⟩))(h2:pc st h h:=by repeat' (first|exact trivial|refine⟨⟨rfl,rfl⟩,?_⟩)):aF cx st ⟨sl,h⟩:=by
 rintro E a w ⟨σ,hs⟩;have hL:∀s,live h s->live st.heap s:=λs hl=>by
  obtain⟨b,hb⟩:=ax.1 hl;exact ax.2 ⟨b,(gH h2 s b hb).1⟩
 have hk:aU w w (Own E.O (live st.heap) σ) (Own E.O (live h) σ):=aU.less λb hb=>by
  rcases hb with hb|⟨s,hs,e⟩
  . exact .inl hb
  . exact .inr ⟨s,hL s hs,e⟩
 refine⟨σ,hs.frame,hs.new,hs.apart,hs.defers,hs.nt,λt=>?_,⟨λs b hb=>?_,λs s' b l l' e e' =>hs.holds.inj s s' b (hL s l) (hL s' l') e e'⟩,hs.glob,hs.globF,λq0 B hB=>⟨(hs.fix q0 B hB).1,λh=>(hs.fix q0 B hB).2 (hL _ h)⟩⟩
 . show au w E.O (live h) σ (St.get ⟨sl,h⟩ t) _
   unfold St.get;cases hf:find sl t with
   |none=>exact .undef _
   |some v =>
    obtain⟨e1,e2⟩:=yG h1 t v hf;have:=hs.slots t;rw[e1]at this;exact jH hL this e2
 . obtain⟨e1,e2⟩:=gH h2 s b hb;have hold:=hs.holds.blk s b e1;cases b with
   |box cells =>
    obtain⟨g,cur,t,p1,p2,p3,p4,p5⟩:=hold;exact⟨g,cur,t,p1,p2,p3,p4,λj c hj=>⟨(p5 j c hj).1,jH hL (p5 j c hj).2 (ay.1 e2 c (ar hj))⟩⟩
   |row e size rows fl =>
    obtain⟨xs,p1,p2,p3,p4,p5⟩:=hold;refine⟨xs,p1,p2,p3,p4,λi r j d hi hj=>?_⟩;obtain⟨u,hu,hd⟩:=p5 i r j d hi hj;exact⟨u,hu,hd.mono hk⟩
   |smap m =>
    obtain⟨g,es,cl,p1,p2,p3,p4,p5⟩:=hold;refine⟨g,es,cl,p1,p2,p3,p4,λj k v hj=>?_⟩;obtain⟨e,he,q1,q2⟩:=p5 j k v hj;exact⟨e,he,q1.mono hk,q2.mono hk⟩
   |kmap m=>obtain⟨g,es,cl,p1,p2,p3,p4⟩:=hold;exact⟨g,es,cl,p1,p2,p3,p4.mono λ_ _ h=>h.mono hk⟩
   |arow e size rows =>
    obtain⟨g,cur,t,p1,p2,p3,p4,p5⟩:=hold;exact⟨g,cur,t,p1,p2,p3,p4,λi r j c hi hj=>⟨(p5 i r j c hi hj).1,jH hL (p5 i r j c hi hj).2 (ay.1 (ay.1 e2 r (ar hi)) c (ar hj))⟩⟩
   |tail e size rows=>exact⟨hold.1.mono (λ_ _=>rfl) λ_ _ hr=>hr.mono hk,hold.2⟩
   |iter left cur=>exact⟨hold.1.mono (λ_ _=>rfl) hk,hold.2⟩
   |dg m =>
    obtain⟨g,es,cl,p1,p2,p3,p4,p5⟩:=hold;exact⟨g,es,cl,p1,p2,p3,p4,λj k v hj=>by obtain⟨e,he,q1,q2⟩:=p5 j k v hj;exact⟨e,he,q1,jH hL q2 (ay.1 e2 _ (ar hj))⟩⟩
def qU(h:List (Nat×Blk)):AV->Bool
 | .tuple vs=>vs.all (refs h)
 |v=>refs h v
theorem uY{w:World}{O L:Nat->Prop}{σ:Nat->Value}{h:List (Nat×Blk)}(hL:∀s,live h s->L s){c:AV}{v:Value}(hr:au w O L σ c v)(hf:qU h c=true):au w O (live h) σ c v:=by
 cases c with
 |tuple vs=>cases hr with|tuple _ us hl hh=>exact .tuple _ _ hl λj c hj=>jH hL (hh j c hj) (ay.1 hf c (ar hj))
 |_=>exact jH hL hr hf
theorem aF.kj{cx:Cx}{st:St}(t s sz:Nat)(e:TypeId)(sz' :Nat)(h1:st.get t= .nil sz)(h2:find st.heap s=none)(h3:0<sz')(h4:Nat.blt s 100000=true:=by rfl):aF cx st ⟨(t,.own s)::st.slots,(s,.row e sz' [])::st.heap⟩:=by
 rintro E a w ⟨σ,hs⟩;have hn:¬live st.heap s:=by unfold live;rw[h2];simp
 let σ' :Nat->Value:=λx=>if x=s then .slice none 0 0 else σ x
 have e1:σ' s= .slice none 0 0:=if_pos rfl;have e2:∀x,live st.heap x->σ' x=σ x:=λx hl=>if_neg λ(e:x=s)=>hn (e ▸ hl)
 have hL:∀x,live ((s,Blk.row e sz' [])::st.heap) x ↔ x=s\/live st.heap x:=λx=>by
  have:=bW (bs:=[(s,Blk.row e sz' [])]) (h:=st.heap) (s:=x);rw[bH]at this;exact this
 have hk:aU w w (Own E.O (live st.heap) σ) (Own E.O (live ((s,Blk.row e sz' [])::st.heap)) σ'):=aU.less λb hb=>by
  rcases hb with hb|⟨x,hl,hx⟩
  . exact .inl hb
  . rcases (hL x).1 hl with rfl|hl
    . rw[e1]at hx;cases hx
    . rw[e2 x hl]at hx;exact .inr ⟨x,hl,hx⟩
 have hss:∀x,live st.heap x->live ((s,Blk.row e sz' [])::st.heap) x/\σ' x=σ x:=λx hl=>⟨(hL x).2 (.inr hl),e2 x hl⟩
 refine⟨σ',hs.frame,hs.new,hs.apart,hs.defers,hs.nt,λq=>?_,⟨λx b hb=>?_,λx y b l l' f f' =>?_⟩,hs.glob,hs.globF,λq0 B hB=>⟨(hs.fix q0 B hB).1,λh=>?_⟩⟩
 . show au w E.O (live ((s,Blk.row e sz' [])::st.heap)) σ' (St.get ⟨(t,.own s)::st.slots,_⟩ q) _
   by_cases hq:t=q
   . subst hq;have hv:St.get ⟨(t,AV.own s)::st.slots,(s,Blk.row e sz' [])::st.heap⟩ t= .own s:=by simp[St.get,aP]
     rw[hv];have hr:=hs.slots t;rw[h1]at hr;have:a.tmps.getD t Go.undef=σ' s:=by rw[e1];generalize a.tmps.getD t Go.undef=u at hr;cases hr;rfl
     rw[this];exact .own s ((hL s).2 (.inl rfl))
   . have hv:St.get ⟨(t,AV.own s)::st.slots,(s,Blk.row e sz' [])::st.heap⟩ q=st.get q:=by simp[St.get,aQ _ _ hq]
     rw[hv];exact(hs.slots q).mono hk hss
 . have hb' :find ((s,Blk.row e sz' [])::st.heap) x=some b:=hb;rw[eG]at hb';split at hb'
   . rename_i hx;subst hx;cases hb';exact⟨[],by rw[e1];exact World.ownsRow_nil w 0 e sz',(λb hb=>by rw[e1]at hb;cases hb),⟨h3,λe=>by cases e⟩,λr hr=>by simp at hr,λi r j d hi=>by simp at hi⟩
   . have hl:live st.heap x:=ax.2 ⟨b,hb'⟩;exact(hs.holds.blk x b hb').mono hk hss hl λg _=>rfl
 . rcases (hL x).1 l with rfl|l
   . rw[e1]at f;cases f
   . rcases (hL y).1 l' with rfl|l'
     . rw[e1]at f';cases f'
     . rw[e2 x l]at f;rw[e2 y l']at f';exact hs.holds.inj x y b l l' f f'
 . rcases (hL _).1 h with e|h
   . have hq0:=(hs.fix q0 B hB).1.2;have:s<100000:=Nat.lt_of_succ_le (ag h4);omega
   . rw[e2 _ h];exact(hs.fix q0 B hB).2 h
theorem dw{n:Nat}{p:Nat->Bool}:(List.range (n+1)).all p=((List.range n).all p&&p n):=by simp[List.range_succ]
theorem de{n k:Nat}{p:Nat->Bool}(hk:k<n)(h:p k=false):(List.range n).all p=false:=by
 rw[List.all_eq_false];exact⟨k,List.mem_range.2 hk,by simp[h]⟩
theorem wrap_i64{n:Int}(h1: -9223372036854775808<=n)(h2:n<=9223372036854775807):IntKind.i64.wrap n=n:=by
 simp[IntKind.wrap,IntKind.signed,IntKind.bits];omega
theorem eH{cx:Cx}{f:FuncId}{args:List D}{v:AV}(hc:ff cx.P f)(hf:IK v=true)
 (h:∀(w:World) (vs:Array Value),iN cx w->vs.size=args.length->(∀(j:Nat) d,args[j]? =some d->Rep w (λ_=>False) d (vs.getD j Go.undef)) ->
  Calls cx.P f vs w λe w' => ∃u,e= .returned u/\Below w.heap.size w w' /\au w' (λ_=>False) (live []) (λ_=> .nilFunc) v u):Fn cx f args v []:=by
 refine⟨hc,λO w vs _ hG _ hsz hrep=>?_⟩;refine(h w vs hG hsz λj d hj=>(hrep j d hj).mono (aU.less λb hb=>hb.elim)).mono ?_;rintro e w' ⟨u,he,hb,hr⟩;exact⟨u,λ_=> .nilFunc,he,hb,⟨λs b hs=>by simp[find]at hs,λs s' b hs=>by simp[live,find]at hs⟩,Bk hr hf⟩
theorem fm{w:World}{O:Nat->Prop}{s:List UInt8}{v:Value}(h:Rep w O (.str s) v):∃b:ByteArray,v= .string b/\b.data.toList=s:=by
 cases h with|str s b h=>exact⟨b,rfl,h⟩
theorem vZ{w:World}{O:Nat->Prop}{k:IntKind}{n:Int}{v:Value}(h:Rep w O (.int k n) v):v= .int k n:=by cases h;rfl
theorem OI{w:World}{O:Nat->Prop}{b:Bool}{v:Value}(h:Rep w O (.bool b) v):v= .bool b:=by cases h;rfl
theorem wg{vs:Array Value}(h:vs.size=1):vs= #[vs.getD 0 Go.undef]:=by
 apply Array.ext
 . simp[h]
 . intro i h1 h2;simp at h2;subst h2;simp[h]
theorem wh{vs:Array Value}(h:vs.size=2):vs= #[vs.getD 0 Go.undef,vs.getD 1 Go.undef]:=by
 apply Array.ext
 . simp[h]
 . intro i h1 h2;simp at h2;rcases i with _|_|i
   . simp[h]
   . simp[h]
   . omega
theorem PR{vs:Array Value}(h:vs.size=3):vs= #[vs.getD 0 Go.undef,vs.getD 1 Go.undef,vs.getD 2 Go.undef]:=by
 apply Array.ext
 . simp[h]
 . intro i h1 h2;simp at h2;rcases i with _|_|_|i
   . simp[h]
   . simp[h]
   . simp[h]
   . omega
theorem aD{α:Type}{f:α->List D}{l:List α}{k:Nat}{g:α}(h:l[k]? =some g):(l.map f)[((k:Nat):Int).toNat]? =some (f g):=by simp[h]
theorem ml{k:Nat}(h:decide ((k:Int)>0)=true)(hk:k<=4611686018427387904):0<=IntKind.i64.wrap ((k:Int)-1)/\(IntKind.i64.wrap ((k:Int)-1)).toNat=k-1:=by
 simp at h;rw[wrap_i64 (by omega) (by omega)];omega
theorem kO{α:Type}{f:α->List D}{l:List α}{k:Nat}{g:α}(h:decide ((k:Int)>0)=true)(hk:k<=4611686018427387904)(hg:l[k-1]? =some g):(l.map f)[(IntKind.i64.wrap ((k:Int)-1)).toNat]? =some (f g):=by
 rw[(ml h hk).2];simp[hg]
theorem an{k:Nat}(hk:k<=4611686018427387904):AV.d (D.int .i64 (IntKind.i64.wrap ((k:Int)+1)))=AV.d (D.int .i64 ((k+1:Nat):Int)):=by
 rw[wrap_i64 (by omega) (by omega)];rfl
def jk:Nat->List AV->List (Nat×AV)
 |_,[]=>[]
 |i,x::t=>(i,x)::jk (i+1) t
theorem ny:∀(i:Nat) (l:List AV) (t:Nat),find (jk i l) t=if i<=t then l[t-i]? else none
 |i,[],t=>by simp[jk,find]
 |i,x::l,t=>by
  unfold jk;by_cases e:i=t
  . subst e;rw[aP,if_pos (Nat.le_refl _),Nat.sub_self];rfl
  . rw[aQ _ _ e,ny (i+1) l t];by_cases h:i<=t
    . rw[if_pos h,if_pos (by omega)];obtain⟨u,hu⟩:∃u,t-i=u+1:=⟨t-i-1,by omega⟩
      rw[hu,List.getElem?_cons_succ]
      congr 1;omega
    . rw[if_neg h,if_neg (by omega)]
theorem RJ{cx cx' :Cx}(h1:cx'.P=cx.P)(h2:cx'.gl=cx.gl){f:FuncId}{give:Bool}{e:TypeId}{sz:Nat}{rows:List (List D)}{fl:Bool}{args:List D}{rows' :List (List D)}(h:FnR cx f give e sz rows fl args rows'):FnR cx' f give e sz rows fl args rows' :=by
 unfold FnR ff iN at *
 rw[h1,h2];exact h
def dq(w:World)(O:Nat->Prop)(sz:Nat)(rows:List (List D))(xs:List Value):Prop :=
 ∀i r j d,rows[i]? =some r->r[j]? =some d-> ∃u,xs[i*sz+j]? =some u/\Rep w O d u
def eJ(sz:Nat)(rows:List (List D)):Prop:= ∀r∈rows,r.length=sz/\ ∀d∈r,d.one=true
section
variable {w:World} {O:Nat->Prop} {sz:Nat} {rows rows2:List (List D)} {xs ys:List Value}
theorem dq.take(h:dq w O sz rows xs)(hr:eJ sz rows)(n:Nat):dq w O sz (rows.take n) (xs.take (n*sz)):=λi r j d hi hj=>by
 rw[List.getElem?_take]at hi;split at hi
 . rename_i hlt;obtain⟨u,hu,hd⟩:=h i r j d hi hj;refine⟨u,?_,hd⟩;have hj' :j<sz:=by rw[<- (hr r (ar hi)).1];exact(aq.1 hj).1
   have:(i+1)*sz<=n*sz:=Nat.mul_le_mul_right _ hlt;rw[Nat.add_mul]at this;rw[List.getElem?_take,if_pos (by omega)];exact hu
 . cases hi
theorem dq.drop(h:dq w O sz rows xs)(n:Nat):dq w O sz (rows.drop n) (xs.drop (n*sz)):=λi r j d hi hj=>by
 rw[List.getElem?_drop]at hi;obtain⟨u,hu,hd⟩:=h _ r j d hi hj;refine⟨u,?_,hd⟩;rw[List.getElem?_drop, <- hu,Nat.add_mul,Nat.add_assoc]
theorem dq.append(h:dq w O sz rows xs)(h2:dq w O sz rows2 ys)(hx:xs.length=rows.length*sz):dq w O sz (rows++rows2) (xs++ys):=λi r j d hi hj=>lQ hx (aU.refl w O) h h2 i r j d hi hj
theorem eJ.take(h:eJ sz rows)(n:Nat):eJ sz (rows.take n):=λr hr=>h r (List.mem_of_mem_take hr)
theorem eJ.drop(h:eJ sz rows)(n:Nat):eJ sz (rows.drop n):=λr hr=>h r (List.mem_of_mem_drop hr)
theorem eJ.append(h:eJ sz rows)(h2:eJ sz rows2):eJ sz (rows++rows2):=λr hr=>by
 rcases List.mem_append.1 hr with hr|hr
 . exact h r hr
 . exact h2 r hr
theorem dq.one(h:dq w O sz rows xs)(hr:eJ sz rows)(hsz:0<sz)(hx:xs.length=rows.length*sz):∀u∈xs,u.oneCell' =true:=λu hu=>by
 obtain⟨q,hq,rfl⟩:=List.getElem_of_mem hu;have h1:q / sz<rows.length:=Nat.div_lt_of_lt_mul (by rw[Nat.mul_comm];omega);have h3:=hr _ (List.getElem_mem h1);have h4:q % sz<(rows[q / sz]).length:=by rw[h3.1];exact Nat.mod_lt _ hsz
 obtain⟨z,hz,hd⟩:=h _ _ _ _ (aj h1) (aj h4);rw[show q / sz*sz+q % sz=q by rw[Nat.mul_comm];exact Nat.div_add_mod q sz,aj hq]at hz;cases hz;exact hd.im (h3.2 _ (List.getElem_mem h4))
end
theorem oW{cx:Cx}{w:World}{O:Nat->Prop}(hT:ba cx){t e ty:TypeId}{ei:TI}(hse:bO cx t=some (e,ei))(hsz:1<=ei.size){rows2:List (List D)}{u v:Value}(hr:Rep w O (.slice ei.size rows2) u)
 {n:Nat} {xs:List Value} (hown:w.ownsRow 0 e ei.size v n xs) (hb1:n+rows2.length<=maxLen) (hb2:(n+rows2.length)*ei.bytes<=140737488355328) :
 ∃v' w' news,(Builtin.append_ #[t,t] ty #[v,u]).run cx.P w= .ok v' w' /\w'.ownsRow 0 e ei.size v' (n+rows2.length) (xs++news)/\w.grownBy w' v.ownBlock/\(∀g,home v' =some g->home v=some g\/w.heap.size<=g) /\
  (∀r∈rows2,r.length=ei.size/\ ∀d∈r,d.one=true)/\ ∀i r j d,rows2[i]? =some r->r[j]? =some d-> ∃z,news[i*ei.size+j]? =some z/\Rep w O d z:=by
 obtain⟨ti,ht,hkd,hei⟩:=bP hse;obtain⟨_,_,_,_,t2,t3,_⟩:=hT _ _ ht;rw[hkd]at t3;obtain rfl:=bE t3;obtain⟨info,desc,zv,i1,i2,i3,i4,i5,i6,i7,i8,i9,i10⟩:=hT _ _ hei
 obtain ⟨ad, c, rfl, p1, p2⟩ : ∃ ad c, u = .slice ad rows2.length c /\ (∀ r ∈ rows2, r.length = ei.size /\ ∀ d ∈ r, d.one = true) /\
     (rows2≠[]-> ∃B off,ad=some ⟨B,off,none⟩/\ ∀i r j d,rows2[i]? =some r->r[j]? =some d-> ∃v,w.cell? ⟨B,off+(i*ei.size+j),none⟩=some v/\Rep w O d v):=by
  cases hr with
  |empty=>exact⟨_,_,rfl,λr hr=>by simp at hr,λhne=>absurd rfl hne⟩
  |slice _ _ B off n cap us hn hO hB hc hl h1 h2 =>
   subst hn;exact⟨_,_,rfl,hl,λ_=>⟨B,off,rfl,λi r j d hi hj=>⟨us i j,by rw[<- Nat.add_assoc];exact h1 i r j d hi hj,h2 i r j d hi hj⟩⟩⟩
 by_cases hne:rows2=[]
 . subst hne;have hv:∃base cap,v= .slice base n cap/\n<=cap:=by
    rcases hown.2 with ⟨rfl,rfl⟩|⟨g,cap,cur,rfl,_,_,h,_⟩
    . exact⟨none,0,rfl,Nat.le_refl _⟩
    . exact⟨_,cap,rfl,h⟩
   obtain⟨base,cap,rfl,hnc⟩:=hv;refine⟨_,w,[],mw cx.P w t2 i1 hnc ad c,by simpa using hown,⟨rfl,rfl,rfl,Nat.le_refl _,λ_ _ _=>rfl⟩,λg hg=> .inl hg,p1,λi r j d hi=>by simp at hi⟩
 . obtain⟨B,off,rfl,p3⟩:=p2 hne
   let f:Nat->Value:=λq=>(w.cell? ⟨B,off+q,none⟩).getD Go.undef
   have hq:∀q,q<rows2.length*ei.size-> ∃r d,rows2[q / ei.size]? =some r/\r[q % ei.size]? =some d/\d.one=true:=λq hq=>by
    have h1:q / ei.size<rows2.length:=Nat.div_lt_of_lt_mul (by rw[Nat.mul_comm];exact hq);have h2:=aj h1;have h3:=p1 _ (List.getElem_mem h1);have h4:q % ei.size<(rows2[q / ei.size]).length:=by rw[h3.1];exact Nat.mod_lt _ hsz
    exact⟨_,_,h2,aj h4,h3.2 _ (List.getElem_mem h4)⟩
   have hdm:∀q,q / ei.size*ei.size+q % ei.size=q:=λq=>by rw[Nat.mul_comm];exact Nat.div_add_mod q ei.size
   have hcell:∀q,q<rows2.length*ei.size->w.cell? ⟨B,off+q,none⟩=some (f q)/\(f q).oneCell' =true:=λq hlt=>by
    obtain⟨r,d,h1,h2,h3⟩:=hq q hlt;obtain⟨z,hz,hd⟩:=p3 _ r _ d h1 h2;rw[hdm]at hz;have:f q=z:=by simp[f,hz]
    rw[this];exact⟨hz,hd.im h3⟩
   have hnl:((List.range (rows2.length*ei.size)).map f).length=rows2.length*ei.size:=by simp
   have hnews:∀j u,((List.range (rows2.length*ei.size)).map f)[j]? =some u->w.cell? ((⟨B,off,none⟩:Addr).add j)=some u:=λj u hj=>by
    have hlt:j<rows2.length*ei.size:=by have:=(aq.1 hj).1;simpa using this
    rw[cC];have:f j=u:=by simpa [hlt] using hj
    rw[<- this];exact(hcell j hlt).1
   have hone:∀u∈(List.range (rows2.length*ei.size)).map f,u.oneCell' =true:=λu hu=>by
    obtain⟨q,hq,rfl⟩:=List.mem_map.1 hu;exact(hcell q (by simpa using hq)).2
   obtain⟨v',w',r1,r2,r3,_⟩:=run_append_own (P:=cx.P) w 0 t ty e info zv ei.size ei.bytes t2 i1 i6 i4 i5 (by rw[i7, <- i8]) hsz v n xs hown ⟨B,off,none⟩ rows2.length c _ hnl hnews hone hb1 hb2 (Nat.zero_le _);have hpos:0<rows2.length:=List.length_pos_iff.2 hne;refine⟨v',w',_,r1,r2,r3,λg hg=>?_,p1,λi r j d hi hj=>?_⟩
   . have hm63:n+rows2.length<=9223372036854775807:=by simpa [maxLen] using hb1
     rcases hown.2 with ⟨rfl,rfl⟩|⟨g0,cap,cur,rfl,_,hg0,hnc,_,hcs,_⟩
     . have:=run_append_nil (P:=cx.P) w t ty e info zv t2 i1 i6 ⟨B,off,none⟩ rows2.length c _ (by rw[i4];exact hnl) hnews hpos (by omega) (by rw[i5];rw[Nat.zero_add]at hb2;omega);rw[this]at r1;cases r1;cases hg;exact .inr (Nat.le_refl _)
     . by_cases hroom:n+rows2.length<=cap
       . have:=run_append_room (P:=cx.P) w t ty e info t2 i1 g0 n cap cur hg0 ⟨B,off,none⟩ rows2.length c _ (by rw[i4];exact hnl) hnews hone hroom (by rw[hnl,hcs,i4, <- Nat.add_mul];exact Nat.mul_le_mul_right _ hroom);rw[this]at r1;cases r1;exact .inl hg
       . have:=run_append_grow (P:=cx.P) w t ty e info zv t2 i1 i6 ⟨g0,0,none⟩ n cap xs (by rw[i4];exact hown.1) (hown.cells (g:=g0) rfl) ⟨B,off,none⟩ rows2.length c _ (by rw[i4];exact hnl) hnews (by omega) (by omega) (by rw[i5];exact growslice_fits (by omega) hb2);rw[this]at r1;cases r1;cases hg;exact .inr (Nat.le_refl _)
   . obtain⟨z,hz,hd⟩:=p3 i r j d hi hj;have hlt:i*ei.size+j<rows2.length*ei.size:=by
      have h1:=(aq.1 hi).1;have h2:=(aq.1 hj).1;rw[(p1 r (ar hi)).1]at h2;have:(i+1)*ei.size<=rows2.length*ei.size:=Nat.mul_le_mul_right _ h1;rw[Nat.add_mul]at this;omega
     refine⟨z,?_,hd⟩;have:f (i*ei.size+j)=z:=by simp[f,hz]
     simp[hlt,this]
theorem aF.iH{cx:Cx}{st:St}(k j s sz:Nat)(cells:List AV)(e:TypeId)(sz' :Nat)(hb0:find st.heap k=some (.box cells))(hj0:cells[j]? =some (.nil sz))(h2:find st.heap s=none)(h3:0<sz')(h4:Nat.blt s 100000=true:=by rfl) :
 aF cx st ⟨st.slots,(s,.row e sz' [])::(k,.box (cells.set j (.own s)))::st.heap⟩:=by
 rintro E a w ⟨σ,hs⟩;have hn:¬live st.heap s:=by unfold live;rw[h2];simp
 have hks:k≠s:=λe=>by rw[e,h2]at hb0;cases hb0
 let σ' :Nat->Value:=λx=>if x=s then .slice none 0 0 else σ x
 have e1:σ' s= .slice none 0 0:=if_pos rfl;have e2:∀x,live st.heap x->σ' x=σ x:=λx hl=>if_neg λ(e:x=s)=>hn (e ▸ hl)
 have hL:∀x,live ((s,Blk.row e sz' [])::(k,Blk.box (cells.set j (.own s)))::st.heap) x ↔ x=s\/live st.heap x:=λx=>by
  have:=bW (bs:=[(s,Blk.row e sz' [])]) (h:=(k,Blk.box (cells.set j (.own s)))::st.heap) (s:=x);rw[bH]at this;refine this.trans (or_congr_right ?_);have:=bW (bs:=[(k,Blk.box (cells.set j (.own s)))]) (h:=st.heap) (s:=x);rw[bH]at this;refine this.trans ⟨λh=>?_,.inr⟩;rcases h with rfl|h
  . exact ax.2 ⟨_,hb0⟩
  . exact h
 have hk:aU w w (Own E.O (live st.heap) σ) (Own E.O (live ((s,Blk.row e sz' [])::(k,Blk.box (cells.set j (.own s)))::st.heap)) σ'):=aU.less λb hb=>by
  rcases hb with hb|⟨x,hl,hx⟩
  . exact .inl hb
  . rcases (hL x).1 hl with rfl|hl
    . rw[e1]at hx;cases hx
    . rw[e2 x hl]at hx;exact .inr ⟨x,hl,hx⟩
 have hss:∀x,live st.heap x->live ((s,Blk.row e sz' [])::(k,Blk.box (cells.set j (.own s)))::st.heap) x/\σ' x=σ x:=λx hl=>⟨(hL x).2 (.inr hl),e2 x hl⟩
 refine⟨σ',hs.frame,hs.new,hs.apart,hs.defers,hs.nt,λq=>(hs.slots q).mono hk hss,⟨λx b hb=>?_,λx y b l l' f f' =>?_⟩,hs.glob,hs.globF,λq0 B hB=>⟨(hs.fix q0 B hB).1,λh=>?_⟩⟩
 . have hb' :find ((s,Blk.row e sz' [])::(k,Blk.box (cells.set j (.own s)))::st.heap) x=some b:=hb;rw[eG]at hb';split at hb'
   . rename_i hx;subst hx;cases hb';exact⟨[],by rw[e1];exact World.ownsRow_nil w 0 e sz',(λb hb=>by rw[e1]at hb;cases hb),⟨h3,λe=>by cases e⟩,λr hr=>by simp at hr,λi r j d hi=>by simp at hi⟩
   . rw[eG]at hb';split at hb'
     . rename_i hx;subst hx;cases hb';have hl:live st.heap k:=ax.2 ⟨_,hb0⟩;have hold:cw w E.F E.O (live st.heap) σ k (.box cells):=hs.holds.blk k _ hb0;have hnew:cw w E.F E.O _ σ' k (.box cells):=hold.mono hk hss hl λg _=>rfl
       obtain⟨b,cur,t,k1,k2,k3,k4,k5⟩:=hnew;refine⟨b,cur,t,k1,k2,k3,by rw[List.length_set];exact k4,λi c hi=>?_⟩;by_cases hij:j=i
       . subst hij;have hlt:j<cells.length:=(aq.1 hj0).1;rw[List.getElem?_set_self hlt]at hi;cases hi;refine⟨.inl rfl,?_⟩;have hr:=(k5 j _ hj0).2;have:cur.getD j Go.undef=σ' s:=by rw[e1];generalize cur.getD j Go.undef=u at hr;cases hr;rfl
         rw[this];exact .own s ((hL s).2 (.inl rfl))
       . rw[List.getElem?_set_ne hij]at hi;exact k5 i c hi
     . have hl:live st.heap x:=ax.2 ⟨b,hb'⟩;exact(hs.holds.blk x b hb').mono hk hss hl λg _=>rfl
 . rcases (hL x).1 l with rfl|l
   . rw[e1]at f;cases f
   . rcases (hL y).1 l' with rfl|l'
     . rw[e1]at f';cases f'
     . rw[e2 x l]at f;rw[e2 y l']at f';exact hs.holds.inj x y b l l' f f'
 . rcases (hL _).1 h with e|h
   . have hq0:=(hs.fix q0 B hB).1.2;have:s<100000:=Nat.lt_of_succ_le (ag h4);omega
   . rw[e2 _ h];exact(hs.fix q0 B hB).2 h
def Rp(pv:Int->Value)(F O:Nat->Prop)(h:List (Nat×Blk))(σ:Nat->Value)(w' :World)(en:Ending):Option (AV×List (Nat×Blk))->Prop
 |some (x,h')=> ∃u σ',en= .returned u/\Holds w' F O h' σ' /\(∀s∈cg h,live h' s->σ' s=σ s)/\au w' O (live h') σ' x u
 |none=> ∃e:Int,e≠0/\en= .panicked [{v:=pv e,recovered:=false}]
def FnP(cx:Cx)(pv:Int->Value)(f:FuncId)(args:List AV)(h:List (Nat×Blk))(out:Option (AV×List (Nat×Blk))):Prop :=
 ff cx.P f/\ ∀(O:Nat->Prop) (w:World) (σ:Nat->Value) (vs:Array Value),(∀b,O b->b<w.heap.size)->iN cx w->(∀g cells,cx.gl g=some cells-> ¬O g/\ ¬di h σ g)->(∀b,O b-> ¬di h σ b) ->
  Holds w (di h σ) O h σ->vs.size=args.length->(∀(j:Nat) c,args[j]? =some c->au w O (live h) σ c (vs.getD j Go.undef)) ->
  Calls cx.P f vs w λen w' =>rO (λb=>di h σ b\/w.heap.size<=b) w w' /\Rp pv (λb=>di h σ b\/w.heap.size<=b) O h σ w' en out
def zf(cx:Cx)(pv:Int->Value)(st:St)(f:AV)(args:List AV)(Qp:St->Prop)(k:AV->St->Prop):Prop :=
 match callee f with
 | some (g, a, b) => ∃ (fr : List Nat) (out : Option (AV × List (Nat × Blk))), FnP cx pv g (a ++ args ++ b) (dm fr st.heap) out /\
     ((a++args++b).all (fM ((dm fr st.heap).map (·.1)))=true/\(dm fr st.heap).all (λp=>Aa ((dm fr st.heap).map (·.1)) p.2)=true/\(bI fr st.heap).all (λp=>tZ ((match out with|some _=>cg (dm fr st.heap)|none=>[])++(bI fr st.heap).map (·.1)) p.2)=true) /\
     match out with
     |some (x,h')=>((cg (dm fr st.heap)).all (λs=>(find h' s).isSome)=true/\(h'.map (·.1)).all (λs=>(Nat.blt s 100000||dF (cg (dm fr st.heap)) s)&& !dF fr s)=true)/\k x ⟨qK (cg (dm fr st.heap)++(bI fr st.heap).map (·.1)) st.slots,bI fr st.heap++h'⟩
     |none=>Qp ⟨qK ((bI fr st.heap).map (·.1)) st.slots,bI fr st.heap⟩
 |none=>False
theorem lN{p:Nat×Blk}:∀(l:List (Nat×Blk)),p∈l->live l p.1
 |[],h=>by cases h
 |q::t,hm=>by
  by_cases e:q.1=p.1
  . exact ax.2 ⟨q.2,by rw[<- e];exact aP ..⟩
  . rcases List.mem_cons.1 hm with rfl|hm
    . exact absurd rfl e
    . obtain⟨b,hb⟩:=ax.1 (lN t hm);exact ax.2 ⟨b,by rw[show q=(q.1,q.2)from rfl,aQ _ _ e];exact hb⟩
def oN:Nat->List AV->List AV
 |_,[]=>[]
 |0,_::t=> .undef::oN 0 t
 |n+1,c::t=>(match c with| .d x=> .d x|_=> .undef)::oN n t
def Ol:AV->AV
 | .agg cs=> .agg (oN 7 cs)
 |v=>v
def On:AV->AV
 | .ptr _ _=> .undef
 |v=>v
theorem Oo{w:World}{O L:Nat->Prop}{σ:Nat->Value}{v:AV}{u:Value}(h:au w O L σ v u):au w O L σ (On v) u:=by
 cases h with
 |ptr=>exact .undef _
 |undef=>exact .undef _
 |d x v h=>exact .d _ _ h
 |nil=>exact .nil _
 |own s hL=>exact .own s hL
 |rptr s size i off b n cap o0 hL h=>exact .rptr s size i off b n cap o0 hL h
 |tl s size i b n cap o0 hL h=>exact .tl s size i b n cap o0 hL h
 |omap s hL=>exact .omap s hL
 |maybe p b h=>exact .maybe p b h
 |agg cs vs hl h=>exact .agg cs vs hl h
 |tuple cs vs hl h=>exact .tuple cs vs hl h
 |fn f first caps xs vs hx hl h1 h2=>exact .fn f first caps xs vs hx hl h1 h2
theorem xF:∀(n:Nat) (cs:List AV) (j:Nat) (c:AV),(oN n cs)[j]? =some c->c= .undef\/cs[j]? =some c
 |_,[],_,_,h=>by simp[oN]at h
 |0,x::t,0,c,h=>by simp[oN]at h;exact .inl h.symm
 |0,x::t,j+1,c,h=>by simp[oN]at h;simpa using xF 0 t j c h
 |n+1,x::t,0,c,h=>by
  simp only[oN,List.getElem?_cons_zero,Option.some.injEq]at h;cases x <;> simp at h <;> first|exact .inl h.symm|exact .inr (by simp[h])
 |n+1,x::t,j+1,c,h=>by simp[oN]at h;simpa using xF n t j c h
theorem xG:∀(n:Nat) (cs:List AV),(oN n cs).length=cs.length
 |_,[]=>rfl
 |0,x::t=>by simp[oN,xG 0 t]
 |n+1,x::t=>by simp[oN,xG n t]
theorem Om{w:World}{O L:Nat->Prop}{σ:Nat->Value}{v:AV}{u:Value}(h:au w O L σ v u):au w O L σ (Ol v) u:=by
 cases h with
 |agg cs vs hl h =>
  refine .agg _ _ (hl.trans (xG 7 cs).symm) λj c hj=>?_
  rcases xF 7 cs j c hj with rfl|hc
  . exact .undef _
  . exact h j c hc
 |_=>constructor <;> assumption
theorem Ey{cx:Cx}{pv:Int->Value}{st:St}{o:Oper}{c:Call}{f:Operand}{Qp:St->Prop}{k:AV->St->Prop}(ho:o.op= .call c)(hc:c.callee= .value f){as:List AV}(has:∃m:AV->AV,(∀(w:World) (O L:Nat->Prop) (σ:Nat->Value) v u,au w O L σ v u->au w O L σ (m v) u)/\as=(bM cx st c.args.toList c.argTypes.toList).map m)(h:zf cx pv st (st.ev cx f) as Qp k)
 {E:Env} {a:Act} {w:World} {K:Act->World->Prop} {Q:Exit->Act->World->Prop} (hd:∀e,o.dst=some e->e<E.nt) (hsim:Sim cx E st a w)
 (hK:∀v st1 a' w',k v st1->Sim cx E ⟨bd st1.slots o.dst v,st1.heap⟩ a' w' ->K a' w')
 (hQ:∀(st1:St) w' (e:Int),e≠0->Qp st1->Sim cx E st1 a w' ->Q (.panic [{v:=pv e,recovered:=false}]) a w'):o.wp cx.P a w K Q:=by
 unfold zf at h;split at h
 case h_2=>exact h.elim
 rename_i g xs ys hg;obtain⟨fr,out,hFn,⟨c4,c5,c6⟩,hk⟩:=h;obtain⟨σ,hs⟩:=hsim;obtain⟨us,vs,hu,s1,s2,r1,r2⟩:=mP hg (hs.ev (St.le.refl st) f);obtain⟨l1,l2⟩:as.length=c.args.toList.length/\ ∀(j:Nat) cc,as[j]? =some cc-> ∃x,c.args.toList[j]? =some x/\au w E.O (live st.heap) σ cc (a.eval x):=by
  obtain⟨l1,l2⟩:=gM (St.le.refl st) hs c.args.toList c.argTypes.toList;obtain⟨m,hm,rfl⟩:=has;refine⟨by rw[ao];exact l1,λj cc hj=>?_⟩;rw[aN]at hj;cases hx:(bM cx st c.args.toList c.argTypes.toList)[j]? with
  |none=>rw[hx]at hj;cases hj
  |some c0 =>
   rw[hx]at hj;cases hj;obtain⟨x,h1,h2⟩:=l2 j c0 hx;exact⟨x,h1,hm _ _ _ _ _ _ h2⟩
 obtain⟨⟨fn,hf1,hf2,hf3⟩,hcall⟩:=hFn;have hf2' :¬fn.name= "runtime.NumGoroutine" :=by simpa using hf2
 have hf3' :¬fn.body=none:=by intro e;rw[e]at hf3;cases hf3
 have hrun:(execOp a.eval o).run cx.P w= .ok (.enter g (us++c.args.map a.eval++vs)) w:=by
  simp[execOp,ho,resolve,hc,hu,Deferred.ofValue,invoke,callFunc,hf1,hf2',hf3']
 have hall:=nk (R:=au w E.O (live st.heap) σ) (A:=xs) (B:=as) (C:=ys) (ys:=c.args.map a.eval) s1 (by simp[l1]) r1 (λj cc hj=>by
  obtain⟨x,hx,hr⟩:=l2 j cc hj;have:(c.args.map a.eval).getD j Go.undef=a.eval x:=by rw[aW]at hx;simp[hx]
  rw[this];exact hr) r2
 have hsz:(us++c.args.map a.eval++vs).size=(xs++as++ys).length:=by simp[s1,s2,l1]
 have lvH:∀s,live (dm fr st.heap) s ↔ live st.heap s/\dF fr s=false:=λs=>by
  unfold live;rw[oi];cases dF fr s <;> simp
 have lvE:∀s,live (bI fr st.heap) s ↔ live st.heap s/\dF fr s=true:=λs=>by
  unfold live;rw[mE];cases dF fr s <;> simp
 obtain⟨O',hO'⟩:∃O' :Nat->Prop,O' =λb=>E.O b\/di (bI fr st.heap) σ b:=⟨_,rfl⟩
 have hin:∀b,di (bI fr st.heap) σ b->E.F b/\b<w.heap.size:=λb ⟨s,hl,e⟩=>hs.holds.home ((lvE s).1 hl).1 e
 have hinH:∀b,di (dm fr st.heap) σ b->E.F b/\b<w.heap.size:=λb ⟨s,hl,e⟩=>hs.holds.home ((lvH s).1 hl).1 e
 have hdis:∀b,di (bI fr st.heap) σ b-> ¬di (dm fr st.heap) σ b:=λb ⟨s,hl,e⟩ ⟨s',hl',e'⟩=>by
  have:=hs.holds.inj s s' b ((lvE s).1 hl).1 ((lvH s').1 hl').1 e e';subst this;have h1:=((lvE s).1 hl).2;rw[((lvH s).1 hl').2]at h1;cases h1
 have hOwn:∀b,Own O' (live (dm fr st.heap)) σ b ↔ Own E.O (live st.heap) σ b:=λb=>by
  rw[hO'];constructor
  . rintro((hb|⟨s,hl,e⟩)|⟨s,hl,e⟩)
    . exact .inl hb
    . exact .inr ⟨s,((lvE s).1 hl).1,e⟩
    . exact .inr ⟨s,((lvH s).1 hl).1,e⟩
  . rintro(hb|⟨s,hl,e⟩)
    . exact .inl (.inl hb)
    . cases hf:dF fr s with
      |true=>exact .inl (.inr ⟨s,(lvE s).2 ⟨hl,hf⟩,e⟩)
      |false=>exact .inr ⟨s,(lvH s).2 ⟨hl,hf⟩,e⟩
 have hkH:aU w w (Own E.O (live st.heap) σ) (Own O' (live (dm fr st.heap)) σ):=aU.less λb hb=>(hOwn b).1 hb
 have hnm:∀s∈(dm fr st.heap).map (·.1),live (dm fr st.heap) s:=λs hm=>by
  obtain⟨p,hp,rfl⟩:=List.mem_map.1 hm;exact lN _ hp
 have hcalls := hcall O' w σ (us ++ c.args.map a.eval ++ vs) (fun b hb => by
     rw[hO']at hb;rcases hb with hb|hb
     . exact hs.pf b (.inl hb)
     . exact(hin b hb).2) hs.mU (λg cells hgl=>by
     obtain⟨g1,g2⟩:=hs.globF g cells hgl;refine⟨λhg=>?_,λhg=>g1 (hinH g hg).1⟩;rw[hO']at hg;rcases hg with hg|hg
     . exact g2 hg
     . exact g1 (hin g hg).1)
  (λb hb hH=>by
   rw[hO']at hb;rcases hb with hb|hb
   . exact hs.apart b hb (hinH b hH).1
   . exact hdis b hb hH) ⟨λs b hb=>by
     have hb' :find st.heap s=some b:=by
      rw[oi]at hb;split at hb
      . cases hb
      . exact hb
     have hm:=ay.1 c5 _ (dP hb);exact((AX (hs.holds.blk s b hb') hm hnm hkH)).inF λg hg=>⟨s,ax.2 ⟨b,hb⟩,hg⟩,λs s' b hl hl' =>hs.holds.inj s s' b ((lvH s).1 hl).1 ((lvH s').1 hl').1⟩ hsz
  (λj cc hj=>mR (hall j cc hj) (ay.1 c4 cc (ar hj)) hnm hkH)
 simp only[Oper.wp,hrun,Oper.upon];refine hcalls.mono λen w' =>?_
 rintro⟨hfr,hout⟩;have hF:∀b,(di (dm fr st.heap) σ b\/w.heap.size<=b)->E.F b:=λb hb=>by
  rcases hb with hb|hb
  . exact(hinH b hb).1
  . exact hs.new b (Nat.le_trans hs.frame.size hb)
 cases out with
 |none =>
  obtain⟨e,he,rfl⟩:=hout;dsimp only;refine hQ _ w' e he hk ?_;have hkeep:aU w w' (Own E.O (live st.heap) σ) (Own E.O (live (bI fr st.heap)) σ):=by
   refine⟨hfr.size,λb hb hlt=>hfr.block b λhh=>?_,λb hb hlt ho' =>?_⟩
   . rcases hh with ⟨s,hl,e⟩|hh
     . exact hb (.inr ⟨s,((lvH s).1 hl).1,e⟩)
     . omega
   . rcases ho' with ho' |⟨s,hl,e⟩
     . exact hb (.inl ho')
     . exact hb (.inr ⟨s,((lvE s).1 hl).1,e⟩)
  refine⟨σ,⟨hfr.os.trans hs.frame.os,hfr.tape.trans hs.frame.tape,hfr.output.trans hs.frame.output,Nat.le_trans hs.frame.size hfr.size,λb hb=>(hfr.block b λhh=>hb (hF b hh)).trans (hs.frame.block b hb)⟩,
   hs.new,hs.apart,hs.defers,hs.nt,λt=>?_,⟨λs b hb=>?_,λs s' b hl hl' =>hs.holds.inj s s' b ((lvE s).1 hl).1 ((lvE s').1 hl').1⟩,hs.glob,hs.globF,λq0 B hB=>⟨(hs.fix q0 B hB).1,λhl=>(hs.fix q0 B hB).2 ((lvE q0).1 hl).1⟩⟩
  . have hr:=hs.slots t;unfold St.get at hr ⊢;rw[pb];cases hf:find st.slots t with
    |none=>exact .undef _
    |some v =>
     rw[hf]at hr;dsimp only[Option.map_some];by_cases hv:fM ((bI fr st.heap).map (·.1)) v=true
     . rw[if_pos hv];exact jV hr hv hkeep λx hx=>by
        obtain⟨p,hp,rfl⟩:=List.mem_map.1 hx;exact⟨lN _ hp,rfl⟩
     . rw[if_neg hv];exact .undef _
  have hl:live (bI fr st.heap) s:=ax.2 ⟨b,hb⟩;have hb' :find st.heap s=some b:=by
   have hb:find (bI fr st.heap) s=some b:=hb;rw[mE]at hb;split at hb
   . exact hb
   . cases hb
  have hpl:=ay.1 c6 _ (dP hb);have hpl:tZ ((bI fr st.heap).map (·.1)) b=true:=hpl;refine sC (hs.holds.blk s b hb') hpl (List.mem_map.2 ⟨_,dP hb,rfl⟩) (λx hx=>?_) (λg hg=>hfr.block g λhh=>?_) hkeep
  . obtain⟨p,hp,rfl⟩:=List.mem_map.1 hx;exact⟨lN _ hp,rfl⟩
  . have hgE:di (bI fr st.heap) σ g:=⟨s,hl,hg⟩
    rcases hh with hh|hh
    . exact hdis g hgE hh
    . have:=(hin g hgE).2;omega
 |some xh =>
  obtain⟨x,h'⟩:=xh;obtain⟨u,σ',rfl,hho,hfix,hrep⟩:=hout;obtain⟨⟨c1,c2⟩,hk⟩:=hk;dsimp only;have hnf:∀s,live h' s->dF fr s=false:=λs hl=>by
   obtain⟨b,hb⟩:=ax.1 hl;have:=ay.1 c2 s (List.mem_map.2 ⟨_,dP hb,rfl⟩);rw[aH]at this;simpa using this.2
  have lvN:∀s,live (bI fr st.heap++h') s ↔ live (bI fr st.heap) s\/live h' s:=λs=>by
   unfold live;rw[pO];cases find (bI fr st.heap) s <;> simp
  obtain⟨τ,hτ⟩:∃τ:Nat->Value,τ=λs=>if dF fr s=true then σ s else σ' s:=⟨_,rfl⟩
  have tE:∀s,live (bI fr st.heap) s->τ s=σ s:=λs hl=>by rw[hτ];exact if_pos ((lvE s).1 hl).2
  have tH:∀s,live h' s->τ s=σ' s:=λs hl=>by rw[hτ];exact if_neg (by rw[hnf s hl];simp)
  have hOwn2:∀b,Own E.O (live (bI fr st.heap++h')) τ b->Own O' (live h') σ' b:=λb hb=>by
   rw[hO'];rcases hb with hb|⟨s,hl,e⟩
   . exact .inl (.inl hb)
   . rcases (lvN s).1 hl with hl|hl
     . exact .inl (.inr ⟨s,hl,by rw[<- tE s hl];exact e⟩)
     . exact .inr ⟨s,hl,by rw[<- tH s hl];exact e⟩
  have hk2:aU w' w' (Own O' (live h') σ') (Own E.O (live (bI fr st.heap++h')) τ):=aU.less hOwn2;have hkeep:aU w w' (Own E.O (live st.heap) σ) (Own E.O (live (bI fr st.heap++h')) τ):=by
   refine⟨hfr.size,λb hb hlt=>hfr.block b λhh=>?_,λb hb hlt ho' =>?_⟩
   . rcases hh with ⟨s,hl,e⟩|hh
     . exact hb (.inr ⟨s,((lvH s).1 hl).1,e⟩)
     . omega
   . have ho' :=hOwn2 b ho';rw[hO']at ho';rcases ho' with (ho' |⟨s,hl,e⟩)|⟨s,hl,e⟩
     . exact hb (.inl ho')
     . exact hb (.inr ⟨s,((lvE s).1 hl).1,e⟩)
     . rcases (hho.home hl e).1 with ⟨s',hl',e'⟩|hh
       . exact hb (.inr ⟨s',((lvH s').1 hl').1,e'⟩)
       . omega
  have hfx:∀s∈cg (dm fr st.heap)++(bI fr st.heap).map (·.1),live (bI fr st.heap++h') s/\τ s=σ s:=λs hm=>by
   rcases List.mem_append.1 hm with hm|hm
   . have hl:live h' s:=ay.1 c1 s hm;exact⟨(lvN s).2 (.inr hl),by rw[tH s hl];exact hfix s hm hl⟩
   . obtain⟨p,hp,rfl⟩:=List.mem_map.1 hm;have hl:live (bI fr st.heap) p.1:=lN _ hp;exact⟨(lvN _).2 (.inl hl),tE _ hl⟩
  have hbE:∀s b,find (bI fr st.heap) s=some b->cw w' E.F E.O (live (bI fr st.heap++h')) τ s b:=λs b hb=>by
   have hl:live (bI fr st.heap) s:=ax.2 ⟨b,hb⟩;have hb' :find st.heap s=some b:=by
    rw[mE]at hb;split at hb
    . exact hb
    . cases hb
   have hpl:=ay.1 c6 _ (dP hb);have hpl:tZ (cg (dm fr st.heap)++(bI fr st.heap).map (·.1)) b=true:=hpl;refine sC (hs.holds.blk s b hb') hpl (List.mem_append.2 (.inr (List.mem_map.2 ⟨_,dP hb,rfl⟩))) (λx hx=>hfx x hx) (λg hg=>hfr.block g λhh=>?_) hkeep;have hgE:di (bI fr st.heap) σ g:=⟨s,hl,hg⟩
   rcases hh with hh|hh
   . exact hdis g hgE hh
   . have:=(hin g hgE).2;omega
  refine hK x _ _ _ hk ?_;refine⟨τ,⟨hfr.os.trans hs.frame.os,hfr.tape.trans hs.frame.tape,hfr.output.trans hs.frame.output,Nat.le_trans hs.frame.size hfr.size,λb hb=>(hfr.block b λhh=>hb (hF b hh)).trans (hs.frame.block b hb)⟩,
   hs.new,hs.apart,?_,?_,λt=>?_,⟨λs b hb=>?_,λs s' b hl hl' e e' =>?_⟩,hs.glob,hs.globF,λq0 B hB=>?_⟩
  . cases o.dst <;> exact hs.defers
  . cases o.dst <;> simp[Act.put,hs.nt]
  . show au w' E.O (live (bI fr st.heap++h')) τ (St.get (St.put ⟨qK (cg (dm fr st.heap)++(bI fr st.heap).map (·.1)) st.slots,bI fr st.heap++h'⟩ o.dst x []) t) _
    rw[St.eV,gV (by rw[hs.nt];exact hd)];by_cases e:o.dst=some t
    . rw[if_pos e,if_pos e];exact hrep.mono hk2 λs hl=>⟨(lvN s).2 (.inr hl),tH s hl⟩
    . rw[if_neg e,if_neg e];have hr:=hs.slots t;unfold St.get at hr ⊢;rw[pb];cases hf:find st.slots t with
      |none=>exact .undef _
      |some v =>
       rw[hf]at hr;dsimp only[Option.map_some];by_cases hv:fM (cg (dm fr st.heap)++(bI fr st.heap).map (·.1)) v=true
       . rw[if_pos hv];exact jV hr hv hkeep hfx
       . rw[if_neg hv];exact .undef _
  . have hb:find (bI fr st.heap++h') s=some b:=hb;rw[pO]at hb;cases he:find (bI fr st.heap) s with
    |some b' =>rw[he]at hb;cases hb;exact hbE s _ he
    |none =>
     rw[he]at hb;have hl:live h' s:=ax.2 ⟨b,hb⟩;exact(cw.mono hk2 (λs hl=>⟨(lvN s).2 (.inr hl),tH s hl⟩) hl (λ_ _=>rfl) (hho.blk s b hb)).inF λg hg=>hF g (hho.home hl (by rw[<- tH s hl];exact hg)).1
  . have key:∀s s',live (bI fr st.heap) s->live h' s' ->home (τ s)=some b->home (τ s')=some b->False:=λs s' h1 h2 k1 k2=>by
     rw[tE s h1]at k1;rw[tH s' h2]at k2;have hg:di (bI fr st.heap) σ b:=⟨s,h1,k1⟩
     rcases (hho.home h2 k2).1 with hh|hh
     . exact hdis b hg hh
     . have:=(hin b hg).2;omega
    have hl:live (bI fr st.heap++h') s:=hl;have hl' :live (bI fr st.heap++h') s' :=hl';rcases (lvN s).1 hl with h1|h1
    . rcases (lvN s').1 hl' with h2|h2
      . exact hs.holds.inj s s' b ((lvE s).1 h1).1 ((lvE s').1 h2).1 (by rw[<- tE s h1];exact e) (by rw[<- tE s' h2];exact e')
      . exact(key s s' h1 h2 e e').elim
    . rcases (lvN s').1 hl' with h2|h2
      . exact(key s' s h2 h1 e' e).elim
      . exact hho.inj s s' b h1 h2 (by rw[<- tH s h1];exact e) (by rw[<- tH s' h2];exact e')
  . obtain⟨f1,f2⟩:=hs.fix q0 B hB;refine⟨f1,λhl=>?_⟩;have hl:live (bI fr st.heap++h') q0:=hl;rcases (lvN q0).1 hl with hl|hl
    . rw[tE q0 hl];exact f2 ((lvE q0).1 hl).1
    . obtain⟨b,hb⟩:=ax.1 hl;have hm:=ay.1 c2 q0 (List.mem_map.2 ⟨_,dP hb,rfl⟩);rw[aH,Bool.or_eq_true]at hm;rcases hm.1 with hm|hm
      . have:=Nat.lt_of_succ_le (ag hm);omega
      . have hb' :=iS hm;obtain⟨_,cells,hc'⟩:=jd hb';rw[tH q0 hl,hfix q0 hb' hl];exact f2 ((lvH q0).1 (ax.2 ⟨_,hc'⟩)).1
def pOf(cx:Cx)(st:St)(o:Oper):Option (AV×List AV) :=
 match o.op with
 | .call c=>(match c.callee with
  | .value f=>(match callee (st.ev cx f)with
   |some (g,_,_)=>(match Nat.beq (cx.chg g) 9 with
    |true=>some (st.ev cx f,bM cx st c.args.toList c.argTypes.toList)
    |false=>(match Nat.beq (cx.chg g) 10 with
     |true=>some (st.ev cx f,(bM cx st c.args.toList c.argTypes.toList).map Ol)
     |false=>(match Nat.beq (cx.chg g) 11 with
      |true=>some (st.ev cx f,(bM cx st c.args.toList c.argTypes.toList).map On)
      |false=>none)))
   |none=>none)
  |_=>none)
 |_=>none
theorem LU{cx:Cx}{st:St}{o:Oper}{f:AV}{as:List AV}(h:pOf cx st o=some (f,as)):∃c x,o.op= .call c/\c.callee= .value x/\f=st.ev cx x/\(∃m:AV->AV,(∀(w:World) (O L:Nat->Prop) (σ:Nat->Value) v u,au w O L σ v u->au w O L σ (m v) u)/\as=(bM cx st c.args.toList c.argTypes.toList).map m):=by
 unfold pOf at h;split at h
 . rename_i c ho;split at h
   . rename_i x hc;split at h
     . split at h
       . cases h;exact⟨c,x,ho,hc,rfl,id,λ_ _ _ _ _ _ h=>h,(List.map_id _).symm⟩
       . split at h
         . cases h;exact⟨c,x,ho,hc,rfl,Ol,λ_ _ _ _ _ _ h=>Om h,rfl⟩
         . split at h
           . cases h;exact⟨c,x,ho,hc,rfl,On,λ_ _ _ _ _ _ h=>Oo h,rfl⟩
           . cases h
     . cases h
   . cases h
 . cases h
def SB(cx:Cx)(st:St)(o:Oper):Bool :=
 match o.op with
 | .call c=>(match c.callee with
  | .value (.tmp t)=>(match callee (st.ev cx (.tmp t))with|some (g,_,_)=>Nat.beq (cx.chg g) 6|none=>false)
  |_=>false)
 |_=>false
def CA(cx:Cx)(pv:Int->Value)(Qp:St->Prop)(nt:Nat)(o:Oper)(st:St)(k:St->Prop):Prop :=
 match pOf cx st o with
 |some (f,as)=>(match cM nt o.dst with
  |true=>zf cx pv st f as Qp λv st1=>k ⟨bd st1.slots o.dst v,st1.heap⟩
  |false=>False)
 |none=>(match SB cx st o with|true=>zK cx nt o st k|false=>iX cx nt false o st k)
def MK(cx:Cx)(pv:Int->Value)(Qp:St->Prop)(E:Env)(e:Exit)(a:Act)(w:World):Prop :=
 match e with
 | .panic ch=> ∃(h1:St) (ev:Int),ev≠0/\Qp h1/\ch=[{v:=pv ev,recovered:=false}]/\Sim cx E h1 a w
 |_=>False
theorem OX{cx:Cx}{pv:Int->Value}{Qp:St->Prop}{nt:Nat}(hT:ba cx){o:Oper}{st:St}{k:St->Prop}{E:Env}(hn:E.nt=nt)(h:CA cx pv Qp nt o st k){a:Act}{w:World}(hs:Sim cx E st a w) :
 o.wp cx.P a w (λa' w' => ∃st1,k st1/\Sim cx E st1 a' w') (MK cx pv Qp E):=by
 unfold CA at h;split at h
 . rename_i f as hp;split at h
   . rename_i hd;obtain⟨c,x,ho,hc,rfl,has⟩:=LU hp;exact Ey ho hc has h (by rw[hn];exact cP hd) hs (λv st1 a' w' hk hs' =>⟨_,hk,hs'⟩) λh1 w' e he hq hs' =>⟨h1,e,he,hq,rfl,hs'⟩
   . exact h.elim
 . split at h
   . obtain⟨st1,k1,k2⟩:=EN hT h;exact Oper.wp_mono (λa' w' hs' =>⟨st1,k2,hs'⟩) (k1 E a w _ hn hs)
   . obtain⟨st1,k1,k2⟩:=gr hT h;exact Oper.wp_mono (λa' w' hs' =>⟨st1,k2,hs'⟩) (k1 E a w _ hn hs)
def AD(ops:List Oper)(t:Nat):Bool:=ops.all λo=>match o.dst with|some d=> !(Nat.beq d t)|none=>true
def yt(ops:List Oper)(l:List (Nat×AV)):List (Nat×AV):=l.filter λq=>AD ops q.1
def Sf(ops:List Oper)(Qp:St->Prop):St->Prop:=λst=>Qp ⟨yt ops st.slots,st.heap⟩
theorem yw(ops:List Oper)(t:Nat):∀l:List (Nat×AV),find (yt ops l) t=match AD ops t with|true=>find l t|false=>none
 |[]=>by cases AD ops t <;> rfl
 |(k,v)::l=>by
  have ih:=yw ops t l;unfold yt at ih ⊢;rw[List.filter_cons];by_cases e:k=t
  . subst e;cases hk:AD ops k with
    |true=>rw[if_pos rfl,aP,aP]
    |false=>rw[if_neg (by decide),ih,hk]
  . rw[aQ _ _ e];split
    . rw[aQ _ _ e,ih]
    . exact ih
theorem Rb{cx:Cx}{E:Env}{ops:List Oper}{h1:St}{p a:Act}{w:World}(h:Sim cx E h1 p w)(hd:p.defers=a.defers)(hn:p.tmps.size=a.tmps.size)(ht:∀t,AD ops t=true->p.tmps.getD t Go.undef=a.tmps.getD t Go.undef):Sim cx E ⟨yt ops h1.slots,h1.heap⟩ a w:=by
 obtain⟨σ,hs⟩:=h;refine⟨σ,hs.frame,hs.new,hs.apart,hd ▸ hs.defers,hn ▸ hs.nt,λt=>?_,hs.holds,hs.glob,hs.globF,hs.fix⟩;have hr:=hs.slots t;unfold St.get at hr ⊢;rw[yw];cases ho:AD ops t with
 |true=>rw[<- ht t ho];exact hr
 |false=>exact .undef _
theorem Rn{P:Program}{D:Nat->Prop}{p a:Act}(h:Agr D p a){ops:List Oper}{o:Oper}(hsel:∀cs b,o.op≠ .select cs b)(hl:∀t∈looks ops o,¬D t){w:World}{K:Act->World->Prop}{cx:Cx}{pv:Int->Value}{Qp:St->Prop}{E:Env}{Q:Exit->Act->World->Prop}
 (hw:o.wp P p w K (MK cx pv Qp E)) (hq:∀e w',MK cx pv Qp E e p w' ->Q e a w'):o.wp P a w (λa' w' => ∃p',K p' w' /\Agr (λt=>D t/\o.dst≠some t) p' a') Q:=by
 unfold Oper.wp at hw ⊢;rw[h.exec hsel hl]at hw;generalize (execOp a.eval o).run P w=r at hw ⊢;cases r with
 |ok n w' =>
  cases n <;> simp only[Oper.upon]at hw ⊢
  case value u=>exact⟨_,hw,h.put _ _⟩
  case skip=>exact⟨_,hw,h.put _ _⟩
  case defer d =>
   refine⟨_,hw,?_⟩;have:Agr D {p with defers:=d::p.defers} {a with defers:=d::a.defers}:=⟨by simp[h.1],h.2.1,h.2.2⟩
   exact this.put _ _
  case enter f args =>
   refine Calls.mono hw λe w'' he=>?_
   cases e with
   |returned u=>exact⟨_,he,h.put _ _⟩
   |panicked c=>exact hq _ _ he
   |outgrown=>obtain⟨_,_,hf⟩:=he;exact hf.elim
  case row row args=>exact Rows.mono hw λu w'' he=>⟨_,he,h.put _ _⟩
 |halt x w' =>
  cases x <;> simp only[Oper.upon]at hw ⊢;exact hq _ _ hw
def jN(cx:Cx)(pv:Int->Value)(Qp:St->Prop)(nt:Nat)(ops:List Oper)(k:St->Prop):Nat->List Nat->List Nat->St->Prop
 |0,_,_,_=>False
 |f+1,done,virt,st=>(match iA ops (gy ops done)with
  |some i=>(match ops[i]? with
   |some o=>ia ops st o (Cz cx nt o st λst' =>jN cx pv Qp nt ops k f (i::done) (i::virt) st') (match cM nt o.dst with|true=>jN cx pv Qp nt ops k f (i::done) (i::virt) (st.put o.dst (.tuple []) [])|false=>False)
   |none=>False)
  |none=>(match gy ops done with
   |[]=>k st
   |i::t=>CN (λi=>(match ops[i]? with
    |some o=>ia ops st o (CA cx pv (Sf ops Qp) nt o st λst' =>wc cx ops st st' (sj ops i virt) (jN cx pv Qp nt ops k f (i::done) virt st')) (match cM nt o.dst with|true=>jN cx pv Qp nt ops k f (i::done) virt (st.put o.dst (.tuple []) [])|false=>False)
    |none=>False)) (i::t)))
theorem MA{cx:Cx}{pv:Int->Value}{Qp:St->Prop}{nt:Nat}(hT:ba cx){ops:Array Oper}{E:Env}(hn:E.nt=nt){Q:Exit->Act->World->Prop}{k:St->Prop}{st:St}{a:Act}{w:World}(hclean:bA ops.toList=true)
 (h:jN cx pv Qp nt ops.toList k (ops.size+1) [] [] st) (hs:Sim cx E st a w) (hQ:∀st' a' w',k st' ->Sim cx E st' a' w' ->Q .normal a' w') (hP:∀st1 a' w' (e:Int),e≠0->Qp st1->Sim cx E st1 a' w' ->Q (.panic [{v:=pv e,recovered:=false}]) a' w'):wpAny cx.P .any ops Q ops.size (Array.replicate ops.size false) a {w with drawn:=w.drawn+1}:=by
 have hs0:Sim cx E st a {w with drawn:=w.drawn+1}:=by
  obtain⟨σ,hs⟩:=hs;have hk:aU w {w with drawn:=w.drawn+1} (Own E.O (live st.heap) σ) (Own E.O (live st.heap) σ):=⟨Nat.le_refl _,λ_ _ _=>rfl,λ_ h _=>h⟩
  have hss:∀s,live st.heap s->live st.heap s/\σ s=σ s:=λs h=>⟨h,rfl⟩
  exact⟨σ,⟨hs.frame.os,hs.frame.tape,hs.frame.output,hs.frame.size,hs.frame.block⟩,hs.new,hs.apart,hs.defers,hs.nt,λt=>(hs.slots t).mono hk hss,
   ⟨λs b hb=>cw.mono hk hss (ax.2 ⟨b,hb⟩) (λ_ _=>rfl) (hs.holds.blk s b hb),hs.holds.inj⟩,hs.glob,hs.globF,hs.fix⟩
 have hc:=Df hclean;generalize hcl0:(λi:Nat=>((closure ops.toList [])[i]?).getD [])=cl at hc;generalize hlt0:vN ops.toList (closure ops.toList [])=lt at hc;have hdst:∀{o:Oper},cM nt o.dst=true-> ∀e,o.dst=some e->e<E.nt:=λh=>by rw[hn];exact cP h
 have prog:∀(listed:Array Bool),listed.size=ops.size->Region.ready .any ops listed=[]-> ∀j,j<ops.size->listed.getD j false=true:=by
  intro listed hsz hr j;induction j using Nat.strongRecOn with
  |_ j ih =>
   intro hj;cases hlj:listed.getD j false with
   |true=>rfl
   |false =>
    have ho:ops.toList[j]? =some ops[j]:=by rw[aW];exact Array.getElem?_eq_getElem hj
    have:j∈Region.ready .any ops listed:=(eW hsz).2 ⟨ops[j],ho,hlj,λe he=>by
     have:=hc.edge j _ ho e he;exact ih e this (by omega)⟩
    rw[hr]at this;cases this
 have key : ∀ (fuel : Nat) (listed : Array Bool), listed.size = ops.size -> ((List.range ops.size).filter fun j => !listed.getD j false).length <= fuel -> ∀ (f : Nat) (done virt : List Nat) (st : St) (a : Act) (w : World), jN cx pv Qp nt ops.toList k f done virt st ->
     Inv cx nt ops cl lt E (λj=>listed.getD j false) done virt st a w->wpAny cx.P .any ops Q fuel listed a w:=by
  intro fuel;induction fuel with
  |zero =>
   intro listed hsz hcnt;have hall:∀j,j<ops.size->listed.getD j false=true:=λj hj=>by
    cases h:listed.getD j false with
    |true=>rfl
    |false =>
     have:j∈(List.range ops.size).filter λj=> !listed.getD j false:=List.mem_filter.2 ⟨List.mem_range.2 hj,by simp[h]⟩
     have:=List.length_pos_of_mem this;omega
   intro f;cases f with
   |zero=>intro done virt st a w h _;exact h.elim
   |succ f =>
    intro done virt st a w h hi;refine⟨?_,?_⟩
    . rw[List.eq_nil_iff_forall_not_mem];intro i hi;obtain⟨o,ho,h1,_⟩:=(eW hsz).1 hi;have:i<ops.size:=by have:=(aq.1 ho).1;simpa using this
      rw[hall i this]at h1;cases h1
    . have hnil:gy ops.toList done=[]:=by
       rw[List.eq_nil_iff_forall_not_mem];intro i hir;obtain⟨o,ho,h1,_⟩:=iI.1 hir;exact h1 (hi.sub i (hall i (by have:=(aq.1 ho).1;simpa using this)))
      simp only[jN,hnil,iA]at h;obtain⟨p,hp,hag⟩:=hi.act;have hpa:p=a:=hag.eq λt ⟨x,o,_,hx,ho,_⟩=>by
       have:=hall x (by have:=(aq.1 ho).1;simpa using this);rw[this]at hx;cases hx
      exact hQ st a w h (hpa ▸ hp)
  |succ fuel ih =>
   intro listed hsz hcnt f;induction f with
   |zero=>intro done virt st a w h _;exact h.elim
   |succ f ihf =>
    intro done virt st a w h hi;rw[jN]at h;split at h
    . -- gone over at once
      rename_i i hfp;obtain⟨hir,⟨o,ho,hp⟩,hlw⟩:=jf hfp;rw[hlt0]at hlw;obtain⟨o',ho',hnd,hbd⟩:=iI.1 hir;rw[ho]at ho';cases ho';rw[ho]at h;dsimp only at h;have hnl:listed.getD i false=false:=by
       cases hl:listed.getD i false with
       |false=>rfl
       |true=>exact absurd (hi.sub i hl) hnd
      obtain⟨p,hsp,hag⟩:=hi.act
      have next : ∀ {v : AV} {z : Value}, cM nt o.dst = true -> Sim cx E (st.put o.dst v []) (p.put o.dst z) w -> ((eZ ops.toList st o true /\ opK cx o.dst o.type st o.op (kF v [])) \/ (eZ ops.toList st o false /\ v = .tuple [])) ->
          jN cx pv Qp nt ops.toList k f (i::done) (i::virt) (st.put o.dst v [])->wpAny cx.P .any ops Q (fuel+1) listed a w:=by
       intro v z hd hsim hor hk;refine ihf _ _ _ _ _ hk ⟨λj hj=>aZ _ (hi.sub j hj),⟨_,hsim,?_⟩,λx hx hxl=>?_,λj hj x hx=>?_,hi.downL⟩
       . refine(hag.Jy o.dst z).mono λt ht=>?_
         rcases ht with ⟨x,ox,h1,h2,h3,h4⟩|e
         . exact⟨x,ox,aZ _ h1,h2,h3,h4⟩
         . exact⟨i,o,List.mem_cons_self .., hnl,ho,e⟩
       . rcases List.mem_cons.1 hx with rfl|hx
         . exact⟨⟨List.mem_cons_self .., hlw⟩,Bv hc ho hp hd hor⟩
         . exact⟨⟨aZ _ (hi.re x hx hxl).1.1,(hi.re x hx hxl).1.2⟩,tq hc hi.downD ho hnd hx (.inl hlw) (hi.re x hx hxl).2⟩
       . rcases List.mem_cons.1 hj with rfl|hj
         . exact aZ _ (pA hc (S:=(· ∈done)) hi.downD ho hbd x hx)
         . exact aZ _ (hi.downD j hj x hx)
      rcases lT h with ⟨hw,h⟩|⟨hw,h⟩
      . unfold Cz at h;split at h
        . rename_i hd;obtain⟨v,bs,hk,_,hj⟩:=AG h;split at hk
          . obtain⟨v',bs',hok,rfl,rfl⟩:=qf hT hj;obtain⟨_,hval⟩:=hok.2 hp;obtain⟨σ,hss⟩:=hsp;obtain⟨z,_,hrz⟩:=hval E st σ p w (St.le.refl _) hss;exact next hd ⟨σ,hss.put (hdst hd) hrz⟩ (.inl ⟨hw,hj⟩) hk
          . exact hk.elim
        . exact h.elim
      . split at h
        . rename_i hd;exact next hd (fp (hdst hd) hsp) (.inr ⟨hw,rfl⟩) h
        . exact h.elim
    . rename_i hnofp;refine⟨λhr=>?_,λi hir=>?_⟩
      . have hall:=prog listed hsz hr;have hnil:gy ops.toList done=[]:=by
         rw[List.eq_nil_iff_forall_not_mem];intro i hir;obtain⟨o,ho,h1,_⟩:=iI.1 hir;exact h1 (hi.sub i (hall i (by have:=(aq.1 ho).1;simpa using this)))
        rw[hnil]at h;obtain⟨p,hp,hag⟩:=hi.act;have hpa:p=a:=hag.eq λt ⟨x,o,_,hx,ho,_⟩=>by
         have:=hall x (by have:=(aq.1 ho).1;simpa using this);rw[this]at hx;cases hx
        exact hQ st a w h (hpa ▸ hp)
      . obtain⟨o,ho,hiL,hedges⟩:=(eW hsz).1 hir;have hin:i<ops.size:=by have:=(aq.1 ho).1;simpa using this
        have ho' :ops[i]? =some o:=by rw[<- aW];exact ho
        have hcl:∀x∈cl i,listed.getD x false=true:=pA hc (S:=λx=>listed.getD x false=true) hi.downL ho hedges;have hset:∀j,(listed.setIfInBounds i true).getD j false=if j=i then true else listed.getD j false:=λj=>by
         simp only[bp];by_cases e:j=i
         . subst e;simp[show j<listed.size by omega]
         . rw[if_neg e,Array.getElem?_setIfInBounds_ne (λh=>e h.symm)]
        have hsz' :(listed.setIfInBounds i true).size=ops.size:=by simp[hsz]
        have hcnt' :((List.range ops.size).filter λj=> !(listed.setIfInBounds i true).getD j false).length<=fuel:=by
         have:=yn (p:=λj=> !listed.getD j false) (p' :=λj=> !(listed.setIfInBounds i true).getD j false) (λj hj=>by
          rw[hset]at hj;split at hj
          . simp at hj
          . exact hj) (i:=i) (by simp only[hiL];rfl) (by rw[hset];simp) (List.mem_range.2 hin)
         omega
        have hlk:=hi.He hc ho hcl;have hsel:=hc.sel i o ho;have hdownL:∀j,(listed.setIfInBounds i true).getD j false=true-> ∀x∈cl j,(listed.setIfInBounds i true).getD x false=true:=λj hj x hx=>by
         rw[hset];split
         . rfl
         . rw[hset]at hj;split at hj
           . rename_i e;subst e;exact hcl x hx
           . exact hi.downL j hj x hx
        have hD : ∀ (dn : List Nat), (∀ x ∈ done, x ∈ dn) -> ∀ t, (∃ x o, x ∈ done /\ listed.getD x false = false /\ ops.toList[x]? = some o /\ o.dst = some t) /\ o.dst ≠ some t ->
            ∃x o,x∈dn/\(listed.setIfInBounds i true).getD x false=false/\ops.toList[x]? =some o/\o.dst=some t:=by
         rintro dn hdn t ⟨⟨x,ox,h1,h2,h3,h4⟩,hne⟩;refine⟨x,ox,hdn x h1,?_,h3,h4⟩;rw[hset,if_neg]
         . exact h2
         . intro e;subst e;rw[ho]at h3;cases h3;exact hne h4
        obtain⟨p,hsp,hag⟩:=hi.act;have hwant:=hag.wanted hlk;unfold wpOp;rw[ho'];dsimp only;by_cases hid:i∈done
        . -- it was gone over
          obtain⟨_,o2,v,hox,hp,hd,hv,hor⟩:=hi.re i hid hiL;rw[ho]at hox;cases hox;have fin:∀{z:Value},Sim cx E (st.put o.dst v []) (p.put o.dst z) w->wpAny cx.P .any ops Q fuel (listed.setIfInBounds i true) (a.put o.dst z) w:=by
           intro z hsim;have hext:Sim cx E st (p.put o.dst z) w:=hsim.ext (λt=>by
            rw[St.eV];split
            . rename_i e;exact hv t e
            . rfl) (λs=>rfl)
           refine ih _ hsz' hcnt' (f+1) done virt st _ w (by rw[jN,hnofp];exact h) ⟨λj hj=>?_,⟨_,hext,(hag.put o.dst z).mono (hD done λx hx=>hx)⟩,λx hx hxl=>?_,hi.downD,hdownL⟩
           . rw[hset]at hj;split at hj
             . rename_i e;subst e;exact hid
             . exact hi.sub j hj
           . rw[hset]at hxl;split at hxl
             . cases hxl
             . exact hi.re x hx hxl
          rcases hor with ⟨hw,hk⟩|⟨hw,e⟩
          . have hwp:=fy hw (λd _=>rfl) hsp;rw[<- hwant,hwp,if_pos rfl];obtain⟨v',bs',hok,rfl,rfl⟩:=qf hT hk;obtain⟨_,hval⟩:=hok.2 hp;obtain⟨σ,hss⟩:=hsp;obtain⟨z,hz,hrz⟩:=hval E st σ p w (St.le.refl _) hss;rw[hag.exec hsel hlk]at hz;refine .inl ?_;simp only[Oper.wp,hz,Oper.upon];exact fin ⟨σ,hss.put (hdst hd) hrz⟩
          . have hwp:=fy hw (λd _=>rfl) hsp;rw[<- hwant,hwp];simp only[eR,if_false];subst e;exact fin (fp (hdst hd) hsp)
        . -- it comes up
          have hbd:∀e∈eK o,e∈done:=λe he=>hi.sub e (hedges e he)
          have hmem:i∈gy ops.toList done:=iI.2 ⟨o,ho,hid,hbd⟩;have hthis:ia ops.toList st o (CA cx pv (Sf ops.toList Qp) nt o st λst' =>wc cx ops.toList st st' (sj ops.toList i virt) (jN cx pv Qp nt ops.toList k f (i::done) virt st')) (match cM nt o.dst with|true=>jN cx pv Qp nt ops.toList k f (i::done) virt (st.put o.dst (.tuple []) [])|false=>False):=by
           split at h
           . rename_i hnil;rw[hnil]at hmem;cases hmem
           . rename_i x t hx;rw[hx]at hmem;have:=pK h i hmem;rw[ho]at this;exact this
          have fin : ∀ {st1 : St} {p' a' : Act} {w' : World}, jN cx pv Qp nt ops.toList k f (i :: done) virt st1 -> Sim cx E st1 p' w' -> Agr (fun t => (∃ x o, x ∈ done /\ listed.getD x false = false /\ ops.toList[x]? = some o /\ o.dst = some t) /\ o.dst ≠ some t) p' a' ->
              (∀x∈done,listed.getD x false=false->(x∈virt/\lt x=false)/\pI cx nt ops.toList st1 x)->wpAny cx.P .any ops Q fuel (listed.setIfInBounds i true) a' w' :=by
           intro st1 p' a' w' hk hsim hag' hre;refine ih _ hsz' hcnt' f _ _ _ _ _ hk ⟨λj hj=>?_,⟨_,hsim,hag'.mono (hD (i::done) λx hx=>aZ _ hx)⟩,λx hx hxl=>?_,λj hj x hx=>?_,hdownL⟩
           . rw[hset]at hj;split at hj
             . rename_i e;subst e;exact List.mem_cons_self ..
             . exact aZ _ (hi.sub j hj)
           . rw[hset]at hxl;split at hxl
             . cases hxl
             . rename_i hne;rcases List.mem_cons.1 hx with e|hx
               . exact absurd e hne
               . exact hre x hx hxl
           . rcases List.mem_cons.1 hj with rfl|hj
             . exact aZ _ (pA hc (S:=(· ∈done)) hi.downD ho hbd x hx)
             . exact aZ _ (hi.downD j hj x hx)
          rcases lT hthis with ⟨hw,hy⟩|⟨hw,hy⟩
          . have hwp:=fy hw (λd _=>rfl) hsp;rw[<- hwant,hwp,if_pos rfl];refine .inl (Oper.wp_mono (λa' w' =>?_) (Rn hag hsel hlk (OX hT hn hy hsp) λe w' hq=>?_))
            rotate_left
            . cases e <;> first|exact hq.elim|skip
              obtain⟨h1,ev,hev,hqp,rfl,hs1⟩:=hq;exact hP ⟨yt ops.toList h1.slots,h1.heap⟩ _ _ ev hev hqp (Rb hs1 hag.1 hag.2.1 λt ht=>hag.2.2 t λ⟨x,ox,_,_,hox,hdx⟩=>by
               have:=ay.1 ht ox (ar hox);rw[hdx]at this;simp at this)
            rintro⟨p',⟨st1,k2,hsp'⟩,hag'⟩;obtain⟨k2,hst⟩:=xQ k2;refine fin k2 hsp' hag' λx hx hxl=>?_
            obtain⟨hxv,hre⟩:=hi.re x hx hxl;refine⟨hxv,BR hre (hst x ?_)⟩;unfold sj;refine List.mem_filter.2 ⟨hxv.1,?_⟩;have hnm:¬x∈cl i:=λhm=>by rw[hcl x hm]at hxl;cases hxl
            rw[<- hcl0]at hnm;simp only[Bool.not_eq_true', <- Bool.not_eq_true];exact λe=>hnm (cY.1 e)
          . have hwp:=fy hw (λd _=>rfl) hsp;rw[<- hwant,hwp];simp only[eR,if_false];split at hy
            . rename_i hd;exact fin hy (fp (hdst hd) hsp) (hag.put o.dst Go.undef) λx hx hxl=>⟨(hi.re x hx hxl).1,tq hc hi.downD ho hid hx (.inr λhm=>by rw[hcl x hm]at hxl;cases hxl) (hi.re x hx hxl).2⟩
            . exact hy.elim
 refine key ops.size _ (by simp) ?_ (ops.size+1) [] [] st a _ h ⟨λj hj=>?_,⟨a,hs0,rfl,rfl,λt _=>rfl⟩,λx hx=>(by cases hx),λj hj=>(by cases hj),λj hj=>?_⟩
 . refine Nat.le_trans (List.length_filter_le _ _) (by simp)
 . simp[bp,Array.getElem?_replicate]at hj;split at hj <;> simp at hj
 . simp[bp,Array.getElem?_replicate]at hj;split at hj <;> simp at hj
theorem Pm{cx:Cx}{pv:Int->Value}{Qp:St->Prop}{nt:Nat}(hT:ba cx)(hm:cx.P.follows .mixedOrders=true){id:Nat}{ops:Array Oper}{E:Env}(hn:E.nt=nt){Q:Exit->Act->World->Prop}{k:St->Prop}{st:St}{a:Act}{w:World}(hclean:bA ops.toList=true)
 (h:jN cx pv Qp nt ops.toList k (ops.size+1) [] [] st) (hs:Sim cx E st a w) (hQ:∀st' a' w',k st' ->Sim cx E st' a' w' ->Q .normal a' w') (hP:∀st1 a' w' (e:Int),e≠0->Qp st1->Sim cx E st1 a' w' ->Q (.panic [{v:=pv e,recovered:=false}]) a' w'):(Code.region id ops true).wp cx.P Q a w:=wp_region_any hm (MA hT hn hclean h hs hQ hP)
theorem Is{cx:Cx}(hT:ba cx){w:World}{t e ty:TypeId}{ei:TI}(hse:bO cx t=some (e,ei))(hz:ei.zero.all AV.one=true){g o n c:Nat}(hn:0<n){cur:Array Value}{t' :TypeId}(hg:w.heap[g]? =some (.cells cur t' (0,0)))(hl:o+n*ei.size<=cur.size) :
 ∃(zv:Value) (zs:List Value),zs=(Builtin.zeroCells zv.cells n).toList/\zv.cells.size=ei.zero.length/\(∀(j:Nat) c,ei.zero[j]? =some c->iK c (zv.cells.getD j Go.undef))/\(∀v∈zs,v.oneCell' =true)/\zs.length=n*ei.size/\(Builtin.clear_ #[t] ty #[.slice (some ⟨g,o,none⟩) n c]).run cx.P w= .ok (.tuple #[]) (w.setRow g (cur.toList.take o++zs++cur.toList.drop (o+zs.length)).toArray):=by
 obtain⟨ti,ht,hkd,hei⟩:=bP hse;obtain⟨_,_,_,_,t2,t3,_⟩:=hT _ _ ht;rw[hkd]at t3;obtain rfl:=bE t3;obtain⟨info,desc,zv,i1,i2,i3,i4,i5,i6,i7,i8,i9,i10⟩:=hT _ _ hei;have hzv:(zeroValue e).run cx.P w= .ok zv w:=by simp[zeroValue,typeInfo,i1,i6]
 have hcell:∀q,q<zv.cells.size->(zv.cells[q]!).oneCell' =true:=λq hq=>by
  have hq' :q<ei.zero.length:=by omega
  have h1:=i9 q _ (aj hq');have h2:=ay.1 hz _ (List.getElem_mem hq');have h3:zv.cells.getD q Go.undef=zv.cells[q]! :=by simp[hq]
  rw[h3]at h1;obtain⟨_,h4⟩:=fI (w:=w) (O:=λ_=>False) (L:=λ_=>False) (σ:=λ_=> .nilFunc) h1;exact h4.im (λs hs=>hs.elim) h2
 have hone:∀v∈(Builtin.zeroCells zv.cells n).toList,v.oneCell' =true:=λv hv=>by
  simp[Builtin.zeroCells]at hv;obtain⟨q,hq,rfl⟩:=hv;have hpos:0<zv.cells.size:=by
   rcases Nat.eq_zero_or_pos zv.cells.size with h|h
   . rw[h]at hq;simp at hq
   . exact h
  simpa using hcell (q % zv.cells.size) (Nat.mod_lt _ hpos)
 refine⟨zv,(Builtin.zeroCells zv.cells n).toList,rfl,i7,i9,hone,by simp[Builtin.zeroCells,i7, <- i8],?_⟩;have hst:=run_storeCells_at (P:=cx.P) g o t' (Builtin.zeroCells zv.cells n).toList 0 cur w hg (by simp[Builtin.zeroCells,i7, <- i8];omega) hone;simp only[Nat.add_zero]at hst;obtain⟨m,rfl⟩:∃m,n=m+1:=⟨n-1,by omega⟩
 simp[Builtin.clear_,run_underlying t2,hzv,hst]
theorem Fo{ei:TI}{zs:List Value}{zv:Value}{n:Nat}{z:List D}(hz5:zv.cells.size=ei.zero.length)(hsz:ei.size=ei.zero.length)(hpos:0<ei.size)(hzs:zs=(Builtin.zeroCells zv.cells n).toList)(hz:bN dI ei.zero=some z)(h:∀(j:Nat) c,ei.zero[j]? =some c->iK c (zv.cells.getD j Go.undef)){w:World}{O L:Nat->Prop}{σ:Nat->Value} :
 dq w (Own O L σ) ei.size (List.replicate n z) zs/\eJ ei.size (List.replicate n z):=by
 obtain⟨l1,l2⟩:=bQ hz;have hzl:z.length=ei.size:=l1.trans hsz.symm;have hzr:∀(j:Nat) x,z[j]? =some x->x.one=true/\Rep w (Own O L σ) x (zv.cells.getD j Go.undef):=λj x hj=>by
  obtain⟨cc,hcc,hf⟩:=l2 j x hj;obtain⟨e1,e2⟩:=fI (w:=w) (O:=O) (L:=L) (σ:=σ) (h j cc hcc);refine⟨?_,gN hf e2⟩;rcases e1 with e1|rfl
  . cases cc <;> simp only[dI]at hf <;> first|(cases hf;exact e1)|(cases hf;rfl)|cases hf
  . cases hf
 refine⟨λa r j d ha hj=>?_,λr hr=>?_⟩
 . rw[List.getElem?_replicate]at ha;split at ha
   case isFalse=>cases ha
   rename_i hlt;cases ha;have hj5:j<ei.size:=by have:=(aq.1 hj).1;omega
   refine⟨zv.cells.getD j Go.undef,?_,(hzr j d hj).2⟩;rw[hzs,aW];unfold Builtin.zeroCells;have hlt2:a*ei.size+j<n*zv.cells.size:=by
    rw[hz5, <- hsz];have:(a+1)*ei.size<=n*ei.size:=Nat.mul_le_mul_right _ hlt;rw[Nat.add_mul]at this;omega
   rw[Array.getElem?_map,Array.getElem?_range,if_pos hlt2];have:(a*ei.size+j) % zv.cells.size=j:=by
    rw[hz5, <- hsz,Nat.mul_comm,Nat.mul_add_mod];exact Nat.mod_eq_of_lt hj5
   simp only[Option.map_some,this];rw[getElem!_def,bp];have:j<zv.cells.size:=by omega
   simp[this]
 . obtain⟨_,rfl⟩:=List.mem_replicate.1 hr;exact⟨hzl,λx hx=>by obtain⟨j,hj,rfl⟩:=List.getElem_of_mem hx;exact(hzr j _ (aj hj)).1⟩
section
variable {cx:Cx} {st:St}
theorem Pd(hT:ba cx){o:Oper}{t:TypeId}{x lo:Operand}(ho:o.op= .slice t x (some lo) none none){e:TypeId}{ei:TI}(hse:bO cx t=some (e,ei)){s:Nat}{kd:IntKind}{l:Int}(hx:st.ev cx x= .own s)(hlo:st.ev cx lo= .d (.int kd l))
 {e' :TypeId} {rows:List (List D)} {fl:Bool} (hf:find st.heap s=some (.row e' ei.size rows fl)) (h0:0<=l) (hl:l.toNat<rows.length):iu cx o st ⟨bd st.slots o.dst (.tl s ei.size l.toNat),st.heap⟩:=by
 obtain⟨i,rfl⟩:∃i:Nat,l=(i:Int):=⟨l.toNat,by omega⟩
 rw[Int.toNat_natCast]at hl ⊢;intro E a w Q hd ⟨σ,hs⟩;obtain⟨ti,ht,hkd,hei⟩:=bP hse;obtain⟨_,_,_,_,t2,t3,_⟩:=hT _ _ ht;rw[hkd]at t3;obtain rfl:=bE t3;obtain⟨_,r2⟩:=cZ (w:=w) hT hei;have hrx:=hs.ev (St.le.refl st) x;rw[hx]at hrx;have hrl:=hs.ev (St.le.refl st) lo;rw[hlo]at hrl;have hrl:=hrl.int;obtain⟨xs,q1,q2,q3,q4,q5⟩:=hs.holds.blk s _ hf;rcases q1.2 with ⟨_,e0⟩|⟨g,cap,cur,eσ,_,g3,g4,g5,g6,g7⟩
 . omega
 have hL:live st.heap s:=ax.2 ⟨_,hf⟩;have hux:a.eval x=σ s:=by generalize a.eval x=u at hrx;cases hrx;rfl
 have hcap:¬cap=i:=by omega
 have hin:i<=rows.length:=by omega
 have hexec:(execOp a.eval o).run cx.P w= .ok (.value (.slice (some ⟨g,0+i*ei.size,none⟩) (rows.length-i) (cap-i))) w:=by
  simp[execOp,ho,hux,eσ,hrl,Instr.sliceAt,Instr.slice,Instr.sliceBounds,Instr.sliceBound,run_underlying t2,asIntOf,hin,r2,hcap,cC]
 simp only[Oper.wp,hexec,Oper.upon];exact⟨σ,hs.put hd (.tl s ei.size i g rows.length cap 0 hL eσ)⟩
theorem Qf(hT:ba cx){o:Oper}{t:TypeId}{x hi:Operand}(ho:o.op= .slice t x none (some hi) none){e:TypeId}{ei:TI}(hse:bO cx t=some (e,ei)){s:Nat}{kd:IntKind}{l:Int}(hx:st.ev cx x= .own s)(hlo:st.ev cx hi= .d (.int kd l))
 {e' :TypeId} {rows:List (List D)} {fl:Bool} (hf:find st.heap s=some (.row e' ei.size rows fl)) (h0:0<=l) (hl:l.toNat<rows.length):iu cx o st ⟨bd (gC s st.slots) o.dst (.own s),(s,.row e' ei.size (rows.take l.toNat))::dM s st.heap⟩:=by
 obtain⟨i,rfl⟩:∃i:Nat,l=(i:Int):=⟨l.toNat,by omega⟩
 rw[Int.toNat_natCast]at hl ⊢;intro E a w Q hd ⟨σ,hs⟩;obtain⟨ti,ht,hkd,hei⟩:=bP hse;obtain⟨_,_,_,_,t2,t3,_⟩:=hT _ _ ht;rw[hkd]at t3;obtain rfl:=bE t3;obtain⟨_,r2⟩:=cZ (w:=w) hT hei;have hrx:=hs.ev (St.le.refl st) x;rw[hx]at hrx;have hrl:=hs.ev (St.le.refl st) hi;rw[hlo]at hrl;have hrl:=hrl.int;obtain⟨xs,q1,q2,q3,q4,q5⟩:=hs.holds.blk s _ hf;rcases q1.2 with ⟨_,e0⟩|⟨g,cap,cur,eσ,_,g3,g4,g5,g6,g7⟩
 . omega
 have hL:live st.heap s:=ax.2 ⟨_,hf⟩;have hux:a.eval x=σ s:=by generalize a.eval x=u at hrx;cases hrx;rfl
 have hic:i<=cap:=by omega
 have hexec:(execOp a.eval o).run cx.P w= .ok (.value (.slice (some ⟨g,0,none⟩) i cap)) w:=by
  simp[execOp,ho,hux,eσ,hrl,Instr.sliceAt,Instr.slice,Instr.sliceBounds,Instr.sliceBound,run_underlying t2,asIntOf,r2,hic,cC]
 simp only[Oper.wp,hexec,Oper.upon];have hgo:home (σ s)=some g:=by rw[eσ];rfl
 have hxl:xs.length=rows.length*ei.size:=q1.1;have hlen:(rows.take i).length=i:=by rw[List.length_take];omega
 have hle:i*ei.size<=rows.length*ei.size:=Nat.mul_le_mul_right _ (by omega);have hxt:xs.take (i*ei.size)=cur.toList.take (i*ei.size):=by
  rw[<- g7,List.take_take,Nat.min_eq_left hle]
 obtain⟨σ3,hs3⟩:=hs.EW (s:=s) (b:= .row e' ei.size (rows.take i)) (w' :=w) (d:=o.dst) (u:= .slice (some ⟨g,0,none⟩) i cap) (τ:= .slice (some ⟨g,0,none⟩) i cap) (v:= .own s) hd hL (λx e=>by rw[eσ]at e;cases e) rfl rfl rfl (Nat.le_refl _) (λk _ _=>rfl)
  (λg' hg' =>by cases hg';exact .inl hgo)
  (λσ' e1 hk=>by
   refine⟨xs.take (i*ei.size),?_,λb hb=>?_,⟨q3.1,λe=>by cases e⟩,λr hr=>q4 r (List.mem_of_mem_take hr),?_⟩
   . refine⟨by rw[hlen,List.length_take,hxl];omega,.inr ⟨g,cap,cur,by rw[hlen];exact e1,Nat.zero_le _,g3,by rw[hlen];exact hic,g5,g6,by rw[hlen,hxt]⟩⟩
   . rw[e1]at hb;cases hb;exact q2 g hgo
   . have hIn:dq w (Own E.O (live st.heap) σ) ei.size rows xs:=q5;have hOk:eJ ei.size rows:=q4;intro a r j d ha hj;obtain⟨u,hu,hd⟩:=hIn.take hOk i a r j d ha hj;exact⟨u,hu,hd.mono hk⟩)
  (λσ' e1=>by
   have:=au.own (w:=w) (O:=E.O) (σ:=σ') s hL;rw[e1]at this;exact this)
 exact⟨σ3,hs3⟩
theorem Qd(hT:ba cx){o:Oper}{t:TypeId}{x:Operand}(ho:o.op= .call {callee:= .builtin .clear,args:= #[x],argTypes:= #[t]}){e:TypeId}{ei:TI}(hse:bO cx t=some (e,ei)){z:List D}(hz:bN dI ei.zero=some z){s i:Nat}(hx:st.ev cx x= .tl s ei.size i)
 {rows:List (List D)} {fl:Bool} (hf:find st.heap s=some (.row e ei.size rows fl)) (hl:i<rows.length):iu cx o st ⟨bd st.slots o.dst (.tuple []),(s,.row e ei.size (rows.take i++List.replicate (rows.length-i) z) fl)::st.heap⟩:=by
 intro E a w Q hd ⟨σ,hs⟩;obtain⟨ti,ht,hkd,hei⟩:=bP hse;obtain⟨_,_,_,_,_,_,_,i8,_,_⟩:=hT _ _ hei;have hrx:=hs.ev (St.le.refl st) x;rw[hx]at hrx;obtain⟨xs,q1,q2,q3,q4,q5⟩:=hs.holds.blk s _ hf;rcases q1.2 with ⟨_,e0⟩|⟨g,cap,cur,eσ,_,g3,g4,g5,g6,g7⟩
 . omega
 have hL:live st.heap s:=ax.2 ⟨_,hf⟩;have hsl:ei.size=ei.zero.length:=by obtain⟨_,_,_,_,_,_,_,_,_,_,h,_⟩:=hT _ _ hei;exact h
 have hone:ei.zero.all AV.one=true:=by
  rw[ay];intro c hc;obtain⟨j,hj⟩:=cd hc;obtain⟨l1,l2⟩:=bQ hz;have hjl:j<z.length:=by rw[l1];exact(aq.1 hj).1
  obtain⟨cc,hcc,hfc⟩:=l2 j _ (aj hjl);rw[hj]at hcc;cases hcc;obtain⟨_,_,zv,_,_,_,_,_,_,_,_,i9,_⟩:=hT _ _ hei;obtain⟨e1,e2⟩:=fI (w:=w) (O:=E.O) (L:=live st.heap) (σ:=σ) (i9 j c hj);rcases e1 with e1|rfl
  . exact e1
  . cases hfc
 have hle:i*ei.size+(rows.length-i)*ei.size=rows.length*ei.size:=by rw[<- Nat.add_mul];congr 1;omega
 have hux:a.eval x= .slice (some ⟨g,0+i*ei.size,none⟩) (rows.length-i) (cap-i):=by
  generalize a.eval x=u at hrx
  cases hrx with|tl _ _ _ g' n' cap' o0 hL' e1=>rw[eσ]at e1;cases e1;rfl
 rw[Nat.zero_add]at hux;obtain⟨zv,zs,z1,z2,z3,z4,z5,z6⟩:=Is (cx:=cx) hT (w:=w) (t:=t) (e:=e) (ty:=o.type) hse hone (g:=g) (o:=i*ei.size) (n:=rows.length-i) (c:=cap-i) (by omega) g3 (by
  rw[hle,g6];exact Nat.mul_le_mul_right _ g4)
 have hexec:(execOp a.eval o).run cx.P w= .ok (.value (.tuple #[])) (w.setRow g (cur.toList.take (i*ei.size)++zs++cur.toList.drop (i*ei.size+zs.length)).toArray):=by
  simp[execOp,ho,resolve,invoke,builtin,hux,z6]
 simp only[Oper.wp,hexec,Oper.upon];have hIn:dq w (Own E.O (live st.heap) σ) ei.size rows xs:=q5;have hOk:eJ ei.size rows:=q4;have hxl:xs.length=rows.length*ei.size:=q1.1;have hle2:i*ei.size<=rows.length*ei.size:=Nat.mul_le_mul_right _ (by omega);have hcs:rows.length*ei.size<=cap*ei.size:=Nat.mul_le_mul_right _ g4;have hlen:(rows.take i++List.replicate (rows.length-i) z).length=rows.length:=by simp;omega
 have hxt:xs.take (i*ei.size)=cur.toList.take (i*ei.size):=by
  rw[<- g7,List.take_take,Nat.min_eq_left hle2]
 have hnew:(xs.take (i*ei.size)++zs).length=rows.length*ei.size:=by
  rw[List.length_append,z5,List.length_take,hxl];omega
 have hcl:cur.toList.length=cap*ei.size:=by rw[Array.length_toList];exact g6
 refine⟨σ,hs.write (s:=s) (g:=g) (d:=o.dst) (v:= .tuple []) (u:= .tuple #[]) hd hL (by rw[eσ];rfl) rfl rfl rfl (by simp[World.setRow]) (λk hk=>setRow_other w g k _ hk) (λhk=>?_) (λw' => .tuple _ _ rfl λj c hj=>by simp at hj)⟩;obtain⟨hz1,hz2⟩:=Fo (n:=rows.length-i) z2 hsl q3.1 z1 hz z3 (w:=w) (O:=E.O) (L:=live st.heap) (σ:=σ);refine⟨xs.take (i*ei.size)++zs,?_,q2,⟨q3.1,λe=>by rw[hlen];exact q3.2 e⟩,?_,?_⟩
 . refine⟨by rw[hlen];exact hnew,.inr ⟨g,cap,_,by rw[hlen];exact eσ,Nat.zero_le _,setRow_heap w g cur _ _ _ g3,by rw[hlen];exact g4,g5,?_,?_⟩⟩
   . simp only[List.size_toArray,List.length_append,List.length_take,List.length_drop,hcl,z5];omega
   . rw[hlen];show List.take (rows.length*ei.size) (cur.toList.take (i*ei.size)++zs++_)=_
     rw[<- hxt, <- hnew,List.take_left'];rfl
 . intro r hr;rcases List.mem_append.1 hr with hr|hr
   . exact q4 r (List.mem_of_mem_take hr)
   . exact hz2 r hr
 . have:=(hIn.take hOk i).append hz1 (by rw[List.length_take,hxl,List.length_take,Nat.min_eq_left hle2,Nat.min_eq_left (by omega)]);intro a r j d ha hj;obtain⟨u,hu,hd⟩:=this a r j d ha hj;exact⟨u,hu,hd.mono hk⟩
end
theorem aF.rq{cx:Cx}{st:St}(l:List Nat):aF cx st (st.bw l):=λ_ _ _ h=>h.bw l
end NQ
