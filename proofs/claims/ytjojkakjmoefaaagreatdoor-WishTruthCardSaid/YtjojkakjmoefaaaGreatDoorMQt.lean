/-
  Merged texts.
-/
import Derived.Test.YtjojkakjmoefaaaGreatDoorMQr
import Derived.Scope
set_option linter.all false

namespace NQ
open Go Go.RowKit
inductive Ex where
 |normal
 |exit (id:Nat)
 |ret
def Ex.out:Ex->Exit
 | .normal=> .normal
 | .exit id=> .exit id
 | .ret=> .ret
def aI(cx:Cx)(st st' :St):Prop:= ∀(E:Env) a w,Sim cx E st a w->Sim cx E st' a w
variable {cx:Cx}
def aI.refl(st:St):aI cx st st:=λ_ _ _ h=>h
def aI.trans{a b c:St}(h:aI cx a b)(k:aI cx b c):aI cx a c:=λE x w j=>k E x w<|h E x w j
def FW(cx:Cx)(nt:Nat)(j:List Nat)(ops:Array Oper)(D:Bool)(Q:St->Prop)(st:St):Prop :=
 (match D with
  |false=>(match eI 88888 j with
   |true=>seqB cx nt ops.toList ops.toList Q<|st.cC j
   |false=>sB cx nt false ops.toList ops.toList Q<|st.cC j)
  |true=>(match eI 66666 j with
   |true=>nW ops.toList=true/\mu cx nt ops.toList Q (ops.size+1) [] [] (st.cC j)
   |false=>QC cx nt ops.toList Q<|st.cC j))
def PF{nt:Nat}{J:List Nat}(G:bC cx)(T:cx.P.follows .mixedOrders=true){E:Env}(H:E.nt=nt){id:Nat}{ops:Array Oper}{j:Bool}{k:St->Prop}{st:St}{a:Act}{w:World}{R:Exit->Act->World->Prop}
 (h:FW cx nt J ops j k st) (I:Sim cx E st a w) (D:∀st' K w',k st' ->Sim cx E st' K w' ->R .normal K w'):(Code.region id ops j).wp cx.P R a w:=by
 unfold FW at h;cases j with
 |false =>
  simp only at h;cases N:eI 88888 J with
  |true=>rw[N]at h;exact wp_region_list<|tD G H ops.toList h (I.cC _) D
  |false=>rw[N]at h;exact wp_region_list<|wO G H ops.toList h (I.cC _) D
 |true =>
  simp only at h;cases U:eI 66666 J with
  |true=>rw[U]at h;exact Yy G T H h.1 h.2 (I.cC _) D
  |false=>rw[U]at h;exact Wy G T H h (I.cC _) D
def vc(cx:Cx)(nt:Nat)(D:Nat->List Nat):Code->(Ex->St->Prop)->St->Prop
 | .skip,Q,st=>Q .normal st
 | .label _,Q,st=>Q .normal st
 | .seq a b,Q,st=>vc cx nt D a (λe s=>match e with| .normal=>vc cx nt D b Q s| .exit id=>Q (.exit id) s| .ret=>Q .ret s) st
 | .cond c a b,Q,st=>(match st.ev cx c with
  | .d (.bool t)=>sI t (vc cx nt D a Q st)<|vc cx nt D b Q st
  | .maybe p=>(p=true->vc cx nt D a Q st)/\vc cx nt D b Q st
  |_=>False)
 | .block id G,Q,st=>vc cx nt D G (λe s=>match e with| .normal=>Q .normal s| .exit j=>(match Nat.beq j id with|true=>Q .normal s|false=>Q (.exit j) s)| .ret=>Q .ret s) st
 | .loop G, Q, st => ∃ (α : Type) (f : α -> St) (J : α -> Prop) (μ : α -> Nat), (∃ x, J x /\ aI cx st (f x)) /\
     ∀x,J x->vc cx nt D G (λe s=>match e with| .normal=> ∃y,J y/\μ y<μ x/\aI cx s (f y)| .exit j=>Q (.exit j) s| .ret=>Q .ret s) (f x)
 | .exit id,Q,st=>Q (.exit id) st
 | .ret,Q,st=>Q .ret st
 | .region id ops H,Q,st=>(match eI 55555 (D id)with
  |true=> ∃st',aI cx st st' /\FW cx nt (D id) ops H (Q .normal) st'
  |false=>FW cx nt (D id) ops H (Q .normal) st)
 | .scope c,Q,st=>vc cx nt D c Q st
 |_,_,_=>False
def IS{nt:Nat}{fz:Nat->List Nat}(hT:bC cx)(hm:cx.P.follows .mixedOrders=true){E:Env}(hn:E.nt=nt):∀(c:Code) {Q:Ex->St->Prop} {st:St} {a:Act} {w:World} {R:Exit->Act->World->Prop},vc cx nt fz c Q st->Sim cx E st a w ->
 (∀e st' I w',Q e st' ->Sim cx E st' I w' ->R e.out I w')->c.wp cx.P R a w:=by
 intro c;induction c with
 |skip=>intro Q st a w R h D H;exact wp_skip<|H .normal st a w h D
 |label l=>intro Q st a w R h D H;exact wp_label<|H .normal st a w h D
 |exit id=>intro Q st a w R h D H;exact wp_exit<|H (.exit id) st a w h D
 |ret=>intro Q st a w R h D H;exact wp_ret<|H .ret st a w h D
 |seq x y U V =>
  intro Q st a w R h D H;refine wp_seq (U (R:=Exit.then (y.wp cx.P R) R) h D λe st' I w' K G =>?_);cases e with
  |normal=>exact V K G H
  |exit id=>exact H (.exit id) st' I w' K G
  |ret=>exact H .ret st' I w' K G
 |cond c x y U V =>
  intro Q st a w R h D H;simp only[vc]at h;split at h
  .rename_i t ht;have Y:a.eval c= .bool t:=by
    obtain⟨σ,D⟩:=D;have:=D.ev (St.le.refl st) c;rw[ht]at this;exact this.bool
   cases t with
   |true=>exact wp_cond_true Y<|U h D H
   |false=>exact wp_cond_false Y<|V h D H
  .rename_i p ht;have Y:∃t,a.eval c= .bool t/\(t=true->p=true):=by
    obtain⟨σ,D⟩:=D;have:=D.ev (St.le.refl st) c;rw[ht]at this;generalize a.eval c=u at this;cases this with|maybe _ b hb=>exact⟨b,rfl,hb⟩
   obtain⟨t,Y,hp⟩:=Y;cases t with
   |true=>exact wp_cond_true Y<|U (h.1<|hp rfl) D H
   |false=>exact wp_cond_false Y<|V h.2 D H
  .exact h.elim
 |block id Z ih =>
  intro Q st a w R h D H;refine wp_block (ih (R:=Exit.inBlock id R) h D λe st' I w' K G =>?_);cases e with
  |normal=>exact H .normal st' I w' K G
  |exit j =>
   dsimp only at K;split at K
   .rename_i X;have X:=bg X;simp only[Ex.out,Exit.inBlock,X,if_true];exact H .normal st' I w' K G
   .rename_i X;have X:j≠id:=λe=>by subst e;simp at X
    simp only[Ex.out,Exit.inBlock,X,if_false];exact H (.exit j) st' I w' K G
  |ret=>exact H .ret st' I w' K G
 |loop Z ih =>
  intro Q st a w R h D H;obtain⟨α,f,J,μ,⟨x,hx,hw⟩,T⟩:=h;refine wp_loop_ghost (λn a w=> ∃y,J y/\μ y=n/\Sim cx E (f y) a w) (μ x) ⟨x,hx,rfl,hw E a w D⟩ ?_;rintro n a w ⟨y,hy,rfl,G⟩;refine ih (T y hy) G λe st' I w' K N =>?_
  cases e with
  |normal =>
   obtain⟨z,hz,hM,yn⟩:=K;exact⟨μ z,hM,z,hz,rfl,yn E I w' N⟩
  |exit j=>exact H (.exit j) st' I w' K N
  |ret=>exact H .ret st' I w' K N
 |region id ops W =>
  intro Q st a w R h D H;simp only[vc]at h;have key:∀{st:St},FW cx nt (fz id) ops W (Q .normal) st->Sim cx E st a w->(Code.region id ops W).wp cx.P R a w:=λh D=>PF hT hm hn h D λst' I w' hk G =>H .normal st' I w' hk G
  cases hw:eI 55555 (fz id)with
  |true=>rw[hw]at h;obtain⟨st',h1,h2⟩:=h;exact key h2<|h1 E a w D
  |false=>rw[hw]at h;exact key h D
 |scope c ih =>
  intro Q st a w R h D H;refine wp_scope_straight (ih (R:=Exit.noGoto R) h D λe st' I w' K G =>?_);cases e<;>exact H _ st' I w' K G
 |_=>intro Q st a w R h;exact h.elim
def IP:Nat->Code->Code
 |0,c=>c
 |n+1,.seq _ b=>IP n b
 |_+1,c=>c
def FX(cx:Cx)(st:St):List ResultVar->Option (List AV)
 |[]=>some []
 | .tmp t::r=>(match qt (st.get t),FX cx st r with|some v,some vs=>some<|v::vs|_,_=>none)
 | .cell s t::r=>(match st.get s with
  | .ptr b off=>(match find st.heap b with
   |some (.box cells)=>(match takeN cx t (cells.drop off),FX cx st r with|some v,some vs=>some<|v::vs|_,_=>none)
   |_=>none)
  |_=>none)
def nN(cx:Cx)(st:St)(j:List ResultVar):Option AV :=
 match FX cx st j with
 |some [v]=>some v
 |some vs=>some<|.tuple vs
 |none=>none
def iX(i:Nat):List D->List (Nat×AV)
 |[]=>[]
 |x::t=>(i,x.gT)::iX (i+1) t
def YO(st:St):AV->Option AV
 | .tuple vs=>(match cB (iU st) vs with|some xs=>some<|.tuple<|xs.map D.gT|none=>none)
 |v=>(match iU st v with|some x=>some x.gT|none=>none)
def XV(cx:Cx)(j:List ResultVar)(st:St):Option AV:=match nN cx st j with|some v=>YO st v|none=>none
def Li(cx:Cx)(j:List ResultVar)(v:AV)(bs:List<|Nat×Blk)(st:St):Prop:=(bs=[]/\XV cx j st=some v)\/(∃st',aI cx st st' /\st'.heap=bs/\nN cx st' j=some v) \/
 ∃v0,nN cx st j=some v0/\ ∀(E:Env) σ a w u,bS cx E st σ a w->aC w E.O (live st.heap) σ v0 u-> ∃τ,Holds w E.F E.O bs τ/\aC w E.O (live bs) τ v u
variable {v:AV}
def ak{j:List ResultVar}{x:AV}{st:St}(h:XV cx j st=some x)(e:x=v):Li cx j v [] st:= .inl ⟨rfl,e ▸ h⟩
def fnQ(cx:Cx)(j:List ResultVar)(v:AV)(bs:List<|Nat×Blk):Ex->St->Prop
 | .normal,st=>Li cx j v bs st
 | .ret,st=>Li cx j v bs st
 | .exit _,_=>False
def sm:∀(i:Nat) (l:List D) (t:Nat),find (iX i l) t=if i<=t then(l[t-i]?).map D.gT else none
 |i,[],t=>by simp[iX,find]
 |i,x::l,t=>by
  simp only[iX];by_cases h:i=t
  .subst h;rw[bo];simp
  .rw[bp _ _ h,sm (i+1) l t];by_cases G:i<t
   .rw[if_pos<|by omega,if_pos<|by omega];obtain⟨q,j⟩:∃q,t-i=q+1:=⟨t-i-1,by omega⟩
    rw[j,show t-(i+1)=q by omega];rfl
   .rw[if_neg<|by omega,if_neg<|by omega]
def xY(j:Array Value):ResultVar->Sem Value
 | .tmp t=>pure<|j.getD t Go.undef
 | .cell a t=>do loadVar t (<- asAddr<|j.getD a Go.undef)
def El(fn:Func)(j:Array Value):results fn j=(do let vs <- fn.results.mapM<|xY j;pure (if h:vs.size=1 then vs[0]else .tuple vs)):=by
 unfold results
 congr 1
def qV{cx:Cx}(U:bC cx){E:Env}{st:St}{σ:Nat->Value}{a:Act}{w:World}(J:bS cx E st σ a w):∀(I:List ResultVar) (vs:List AV),FX cx st I=some vs ->
 ∃us:List Value,(I.mapM<|xY a.tmps).run cx.P w= .ok us w/\us.length=vs.length /\
  ∀(j:Nat) c,vs[j]? =some c->aC w E.O (live st.heap) σ c (us.getD j Go.undef)
 |[],vs,h=>by cases h;exact⟨[],by simp,rfl,λj c D=>by simp at D⟩
 | .tmp t::I,vs,h=>by
  simp only[FX]at h;split at h
  .rename_i v H Y G;cases h;obtain⟨us,h1,N,T⟩:=qV U J I H G;have h0:(xY a.tmps<|.tmp t).run cx.P w= .ok (a.tmps.getD t Go.undef) w:=rfl;refine⟨a.tmps.getD t Go.undef::us,by simp only[List.mapM_cons,Sem.run_bind,h0,Result.andThen,h1,Sem.run_pure],by simp[N],λj c D=>?_⟩;cases j with
   |zero=>simp at D;subst D;have:=J.aY t;rw[<- pq Y]at this;exact this
   |succ j=>simp at D;simpa using T j c D
  .cases h
 | .cell b t::I,vs,h=>by
  simp only[FX]at h;split at h
  .rename_i s off hb;split at h
   .rename_i cells hf;split at h
    .rename_i v H Y G;cases h;obtain⟨us,h1,N,T⟩:=qV U J I H G;have W:=J.aY b;rw[hb]at W;obtain⟨g,cur,tt,e1,e2,e3,e4,e5⟩:=J.holds.blk s _ hf;have K:a.tmps.getD b Go.undef= .pointer (some ⟨g,off,none⟩):=by
      generalize a.tmps.getD b Go.undef=u at W
      cases W with|ptr _ _ _ hL hσ=>rw[hσ]at e1;cases e1;rfl
     obtain⟨z,hz,X⟩:=oA (w:=w) (O:=E.O) (L:=live st.heap) (σ:=σ) U (rb Y) (b:=g) (o:=off) (λj=>cur.getD (off+j) Go.undef) (λj c D=>by
      rw[List.getElem?_drop]at D;have V:off+j<cur.size:=by have:=(aA.1 D).1;omega
      simp[World.cell?,e3,V]) (λj c D=>by rw[List.getElem?_drop]at D;exact(e5 _ c D).2)
     have Z :(loadVar t ⟨g,off,none⟩).run cx.P w= .ok z w:=by simpa [Instr.loadAt,Instr.sureAddr] using hz
     have h0:(xY a.tmps<|.cell b t).run cx.P w= .ok z w:=by simp only[xY,K,asAddr,Sem.run_bind,Sem.run_pure,Result.andThen,Z]
     refine⟨z::us,by simp only[List.mapM_cons,Sem.run_bind,h0,Result.andThen,h1,Sem.run_pure],by simp[N],λj c D=>?_⟩;cases j with
     |zero=>simp at D;subst D;exact X
     |succ j=>simp at D;simpa using T j c D
    .cases h
   .cases h
  .cases h
variable {f:FuncId}{fn:Func}{c:Code}{args:List D}{bs:List (Nat×Blk)}
def gr(fz:Nat->List Nat)(hT:bC cx)(hm:cx.P.follows .mixedOrders=true)(hf:cx.P.funcs[f]? =some fn)(h:vc cx fn.ntmps fz c (fnQ cx fn.results.toList v bs) ⟨iX 0 args,[]⟩)(hN:(fn.name== "runtime.NumGoroutine")=false:=by kernel_rfl)(K:fn.body=some c:=by exact rfl)(ko:args.length<=fn.ntmps:=by exact bA rfl):Fn cx f args v bs:=by
 refine⟨⟨fn,hf,hN,by rw[K];rfl⟩,λO w vs hO hG kF hA hS=>?_⟩;refine calls_of_wp hf K ?_
 let E:Env:=⟨(w.heap.size<= ·),O,w,fn.ntmps,λ_=>none,[]⟩
 have W:Sim cx E ⟨iX 0 args,[]⟩ {tmps:=vs++Array.replicate (fn.ntmps-vs.size) Go.undef,defers:=[]} w:=by
  refine⟨λ_=> .nilFunc,⟨rfl,rfl,rfl,Nat.le_refl _,λ_ _=>rfl⟩,λb K=>K,λb K=>Nat.not_le.2<|hO b K,rfl,?_,λt=>?_,⟨λs b W=>by simp[find]at W,λs s' b W=>by simp[live,find]at W⟩,hG,λg cells hg=>⟨Nat.not_le.2 (hG g cells hg).1,kF g cells hg⟩,λq0 B hB=>by cases hB⟩
  .show(vs++Array.replicate (fn.ntmps-vs.size) Go.undef).size=fn.ntmps
   simp;omega
  .show aC w O (live []) _ (St.get ⟨iX 0 args,[]⟩ t) _
   have hE:∀b,Own O (live []) (λ_=>Value.nilFunc) b->O b:=λb K=>by
    rcases K with K|⟨s,Z,_⟩
    .exact K
    .simp[live,find]at Z
   simp only[St.get,sm,Nat.zero_le,if_true,Nat.sub_zero];cases ht:args[t]? with
   |none=>exact .undef _
   |some x =>
    have hM:t<vs.size:=by rw[hA];exact(aA.1 ht).1
    have:(vs++Array.replicate (fn.ntmps-vs.size) Go.undef).getD t Go.undef=vs.getD t Go.undef:=by simp[Array.getElem?_append,hM]
    rw[this];exact pB<|(hS t x ht).mono<|bx.less hE
 refine IS hT hm (E:=E) rfl c h W λe st' U w' hq T =>?_
 have key:∀st',Li cx fn.results.toList v bs st' ->Sim cx E st' U w' ->U.defers=[]/\ ∃u,(results fn U.tmps).run cx.P w' = .ok u w' /\ ∃u' τ,Ending.returned u= .returned u' /\Below w.heap.size w w' /\Holds w' (w.heap.size<= ·) O bs τ/\aC w' O (live bs) τ v u' :=by
  intro st' hq T;have run:∀{V:St} {τ:Nat->Value} {v0:AV},bS cx E V τ U w' ->nN cx V fn.results.toList=some v0->Below w.heap.size w w' /\U.defers=[]/\ ∃u,(results fn U.tmps).run cx.P w' = .ok u w' /\aC w' O (live V.heap) τ v0 u:=by
   intro V τ v0 G I;unfold nN at I;have H:Below w.heap.size w w' :=⟨G.frame.os,G.frame.tape,G.frame.output,G.frame.size,λk hk=>G.frame.block k<|Nat.not_le.2 hk⟩
   have X:∀us:List Value,(fn.results.toList.mapM<|xY U.tmps).run cx.P w' = .ok us w' ->(results fn U.tmps).run cx.P w' = .ok (if h:us.toArray.size=1 then us.toArray[0]else .tuple us.toArray) w' :=λus yl=>by
    have hm:(fn.results.mapM<|xY U.tmps).run cx.P w' = .ok us.toArray w' :=by
     rw[Array.mapM_eq_mapM_toList];simp[yl]
    rw[El];simp only[Sem.run_bind,hm,Result.andThen,Sem.run_pure]
   refine⟨H,G.defers,?_⟩;split at I
   .rename_i v1 hv;cases I;obtain⟨us,h1,h2,h3⟩:=qV hT G _ _ hv
    match us,h2 with
    |[u],_=>exact⟨u,by rw[X _ h1];simp,by simpa using h3 0 _ rfl⟩
   .rename_i yu kk hv;cases I;obtain⟨us,h1,h2,h3⟩:=qV hT G _ _ hv;have Z:¬us.length=1:=λe=>by
     rw[h2]at e
     match yu,e with
     |[x],_=>exact kk x rfl
    exact⟨.tuple us.toArray,by rw[X _ h1];simp[Z],.tuple _ _ (by simp[h2]) λj c Y=>by simpa [List.getD] using h3 j c Y⟩
   .cases I
  rcases hq with ⟨rfl,I⟩|⟨V,hw,rfl,I⟩|⟨v0,I,hk⟩
  .obtain⟨τ,G⟩:=T;unfold XV at I;split at I
   .rename_i v0 ym;obtain⟨H,J,u,hu,N⟩:=run G ym;refine⟨J,u,hu,u,λ_=> .nilFunc,rfl,H,⟨λs b W=>by simp[find]at W,λs s' b W=>by simp[live,find]at W⟩,?_⟩;have lift:∀{x:D} {z:Value},Rep w' O x z->aC w' O (live []) (λ_=>Value.nilFunc) x.gT z:=λh=>pB (h.mono (bx.less λb K=>by
     rcases K with K|⟨s,Z,_⟩
     .exact K
     .simp[live,find]at Z))
    unfold YO at I;split at I
    .split at I
     .rename_i xs xn;cases I;obtain⟨l1,l2⟩:=cF xn;cases N with|tuple _ us Z hh =>
       refine .tuple _ _ (by simp[Z,l1]) λj c Y=>?_
       rw[bc]at Y;cases hx:xs[j]? with
       |none=>rw[hx]at Y;cases Y
       |some x =>
        rw[hx]at Y;cases Y;obtain⟨c0,kQ,hv⟩:=l2 j x hx;exact lift<|Ag G.holds G.apart hv<|hh j c0 kQ
     .cases I
    .split at I
     .rename_i x hx;cases I;exact lift<|Ag G.holds G.apart hx N
     .cases I
   .cases I
  .obtain⟨τ,G⟩:=hw E U w' T;obtain⟨H,J,u,hu,N⟩:=run G I;exact⟨J,u,hu,u,τ,rfl,H,G.holds,N⟩
  .obtain⟨σ,G⟩:=T;obtain⟨H,J,u,hu,N⟩:=run G I;obtain⟨τ,h1,h2⟩:=hk E σ U w' u G N;exact⟨J,u,hu,u,τ,rfl,H,h1,h2⟩
 cases e with
 |normal=>exact key st' hq T
 |ret=>exact key st' hq T
 |exit id=>exact hq.elim
def WJ(G:bC cx)(J:cx.P.follows .mixedOrders=true)(I:cx.P.funcs[f]? =some fn)(h:vc cx fn.ntmps (λ_=>[]) c (fnQ cx fn.results.toList v bs) ⟨iX 0 args,[]⟩)(D:(fn.name== "runtime.NumGoroutine")=false:=by kernel_rfl)(H:fn.body=some c:=by exact rfl)(j:args.length<=fn.ntmps:=by exact bA rfl):Fn cx f args v bs:=gr (λ_=>[]) G J I h D H j
def bL(H:bC cx)(J:cx.P.follows .mixedOrders=true)(I:cx.P.funcs[f]? =some fn){P:Prop}(h:P)(h1:(fn.name== "runtime.NumGoroutine")=false:=by kernel_rfl)(j:fn.body=some c:=by exact rfl)(D:args.length<=fn.ntmps:=by exact bA rfl)(G:vc cx fn.ntmps (λ_=>[]) c (fnQ cx fn.results.toList v bs) ⟨iX 0 args,[]⟩=P:=by conv=>lhs;whnf):Fn cx f args v bs:=WJ H J I (G.mpr h) h1 j D
def YZ:AV->Option AV
 | .tuple vs=>(match cB ju vs with|some xs=>some<|.tuple<|xs.map D.gT|none=>none)
 |v=>(match ju v with|some x=>some x.gT|none=>none)
def XU(cx:Cx)(G:List ResultVar)(v:AV)(j :List D)(st:St):Prop :=
 ∃(fl:List Nat) (v0:AV) (cs:List AV),nN cx (st.cC fl) G=some v0/\YZ v0=some v/\find (st.cC fl).heap 100000=some (.box cs)/\cB fw cs=some j
def acj(cx:Cx)(G:List ResultVar)(v:AV)(j :List D):Ex->St->Prop
 | .normal,st=>XU cx G v j st
 | .ret,st=>XU cx G v j st
 | .exit _,_=>False
def qW(X:bC cx){E:Env}{G:St}{τ:Nat->Value}{H :Act}{w' :World}{v0:AV}(J:bS cx E G τ H w')(I:nN cx G fn.results.toList=some v0) :
 ∃u,(results fn H.tmps).run cx.P w' = .ok u w' /\aC w' E.O (live G.heap) τ v0 u:=by
 unfold nN at I;have D:∀us:List Value,(fn.results.toList.mapM<|xY H.tmps).run cx.P w' = .ok us w' ->(results fn H.tmps).run cx.P w' = .ok (if h:us.toArray.size=1 then us.toArray[0]else .tuple us.toArray) w' :=λus U=>by
  have hm:(fn.results.mapM<|xY H.tmps).run cx.P w' = .ok us.toArray w' :=by
   rw[Array.mapM_eq_mapM_toList];simp[U]
  rw[El];simp only[Sem.run_bind,hm,Result.andThen,Sem.run_pure]
 split at I
 .rename_i v1 V;cases I;obtain⟨us,h1,K,N⟩:=qV X J _ _ V
  match us,K with
  |[u],_=>exact⟨u,by rw[D _ h1];simp,by simpa using N 0 _ rfl⟩
 .rename_i W T V;cases I;obtain⟨us,h1,K,N⟩:=qV X J _ _ V;have Z:¬us.length=1:=λe=>by
   rw[K]at e
   match W,e with
   |[x],_=>exact T x rfl
  exact⟨.tuple us.toArray,by rw[D _ h1];simp[Z],.tuple _ _ (by simp[K]) λj c Y=>by simpa [List.getD] using N j c Y⟩
 .cases I
def iw(fz:Nat->List Nat)(hT:bC cx)(hm:cx.P.follows .mixedOrders=true){cells:List D}{H :List D}(hf:cx.P.funcs[f]? =some fn)(h:vc cx fn.ntmps fz c (acj cx fn.results.toList v H) ⟨(0,.ptr 100000 0)::iX 1 args,[(100000,.box<|cells.map .d)]⟩)(hN:(fn.name== "runtime.NumGoroutine")=false:=by kernel_rfl)(U:fn.body=some c:=by exact rfl)(ko:args.length+1<=fn.ntmps:=by exact bA rfl)(yd:fn.ntmps<=100000:=by exact bA rfl):FnB cx f cells args v H :=by
 refine⟨⟨fn,hf,hN,by rw[U];rfl⟩,λO w B cur t vs hO hG kF kN hB ka T hA hS=>?_⟩;refine calls_of_wp hf U ?_
 let E:Env:=⟨λb=>b=B\/w.heap.size<=b,λb=>O b/\b≠B,w,fn.ntmps,λq=>if q=100000 then some B else none,[]⟩
 let σ:Nat->Value:=λ_=> .pointer<|some ⟨B,0,none⟩
 have xG:B<w.heap.size:=hO B kN;have I:∀s,live [(100000,Blk.box<|cells.map .d)] s ↔ s=100000:=λs=>cN
 have hE:∀b,Own E.O (live [(100000,Blk.box<|cells.map .d)]) σ b ↔ O b:=λb=>by
  constructor
  .rintro(⟨h,_⟩|⟨s,_,e⟩)
   .exact h
   .cases e;exact kN
  .intro h;by_cases e:b=B
   .subst e;exact .inr ⟨100000,(I _).2 rfl,rfl⟩
   .exact .inl ⟨h,e⟩
 have hk:bx w w O<|Own E.O (live [(100000,Blk.box<|cells.map .d)]) σ:=bx.less λb U=>(hE b).1 U
 have Z:Sim cx E ⟨(0,.ptr 100000 0)::iX 1 args,[(100000,.box<|cells.map .d)]⟩ {tmps:=(#[.pointer<|some ⟨B,0,none⟩]++vs)++Array.replicate (fn.ntmps-(#[Value.pointer<|some ⟨B,0,none⟩]++vs).size) Go.undef,defers:=[]} w:=by
  refine⟨σ,⟨rfl,rfl,rfl,Nat.le_refl _,λ_ _=>rfl⟩,λb U=> .inr U,λb U hF=>?_,rfl,?_,λt=>?_,⟨λs b Z=>?_,λs s' b Z N _ _=>((I s).1 Z).trans ((I s').1 N).symm⟩,hG,λg cells hg=>⟨λhF=>?_,λhX =>kF g cells hg hX.1⟩,λq0 B' xp =>by
   by_cases hq:q0=100000
   .subst hq;exact⟨⟨yd,Nat.le_refl _⟩,λ_=>by cases xp;rfl⟩
   .exact absurd xp<|by show(if q0=100000 then some B else none)≠some B';rw[if_neg hq];simp⟩
  .rcases hF with e|e
   .exact U.2 e
   .have:=hO b U.1;omega
  .show((#[Value.pointer<|some ⟨B,0,none⟩]++vs)++Array.replicate _ Go.undef).size=fn.ntmps
   simp;omega
  .rcases t with _|t
   .show aC w E.O (live [(100000,Blk.box<|cells.map .d)]) σ (.ptr 100000 0) _
    have:((#[Value.pointer<|some ⟨B,0,none⟩]++vs)++Array.replicate (fn.ntmps-(#[Value.pointer<|some ⟨B,0,none⟩]++vs).size) Go.undef).getD 0 Go.undef= .pointer (some ⟨B,0,none⟩):=by simp[Array.getElem?_append]
    rw[this];exact .ptr _ _ B ((I _).2 rfl) rfl
   .have hg:St.get ⟨(0,.ptr 100000 0)::iX 1 args,[(100000,Blk.box<|cells.map .d)]⟩ (t+1)=match (args[t]?).map D.gT with|some v=>v|none=> .undef:=by
     unfold St.get;rw[bp _ _<|by omega,sm,if_pos<|by omega,Nat.add_sub_cancel];cases args[t]?<;>rfl
    rw[hg];cases ht:args[t]? with
    |none=>exact .undef _
    |some x =>
     have hM:t<vs.size:=by rw[hA];exact(aA.1 ht).1
     have:((#[Value.pointer<|some ⟨B,0,none⟩]++vs)++Array.replicate (fn.ntmps-(#[Value.pointer<|some ⟨B,0,none⟩]++vs).size) Go.undef).getD (t+1) Go.undef=vs.getD t Go.undef:=by simp[Array.getElem?_append,hM]
     rw[this];exact pB<|(hS t x ht).mono hk
  .have N :=(I s).1<|aH.2 ⟨b,Z⟩;subst N;have Z:find [(100000,Blk.box<|cells.map AV.d)] 100000=some b:=Z;rw[bo]at Z;cases Z;refine⟨B,cur,t,rfl,.inl rfl,hB,by simpa using ka,λj c V=>?_⟩;rw[bc]at V;cases hc:cells[j]? with
   |none=>rw[hc]at V;cases V
   |some d=>rw[hc]at V;cases V;exact⟨.inl (T j d hc).1,.d _ _<|(T j d hc).2.mono hk⟩
  .rcases hF with e|e
   .exact kF g cells hg<|e ▸ kN
   .have:=(hG g cells hg).1;omega
 refine IS hT hm (E:=E) rfl c h Z λe st' a' w' hq N =>?_
 have key : ∀ st', XU cx fn.results.toList v H st' -> Sim cx E st' a' w' -> a'.defers = [] /\ ∃ u, (results fn a'.tmps).run cx.P w' = .ok u w' /\ ∃ u' K t', Ending.returned u = .returned u' /\ w'.os = w.os /\ w'.tape = w.tape /\ w'.output = w.output /\ w.heap.size <= w'.heap.size /\
     (∀k,k<w.heap.size->k≠B->w'.heap[k]? =w.heap[k]?)/\w'.heap[B]? =some (.cells K t' (0,0))/\K.size=H.length/\(∀(j:Nat) d,H[j]? =some d->d.one=true/\Rep w' O d (K.getD j Go.undef)) /\
     aC w' O (λ_=>False) (λ_=> .nilFunc) v u' :=by
  rintro st' ⟨fl,v0,cs,hr,G,X,kD⟩ N;obtain⟨τ,J⟩:=N.cC fl;generalize st'.cC fl=st2 at hr X J;have xz:live st2.heap 100000:=aH.2 ⟨_,X⟩;have hτ:=(J.fix 100000 B (show(if (100000:Nat)=100000 then some B else none)=some B from if_pos rfl)).2 xz;obtain⟨b,K,t',g1,g2,g3,g4,g5⟩:=J.holds.blk 100000 _ X;rw[hτ]at g1;cases g1;obtain⟨u,hu,xC⟩:=qW hT J hr;have W:bx w' w' (Own E.O (live st2.heap) τ) O:=bx.less λx hx=>by
   by_cases e:x=B
   .subst e;exact .inr ⟨100000,xz,by rw[hτ];rfl⟩
   .exact .inl ⟨hx,e⟩
  have lift:∀{x:D} {z:Value},Rep w' (Own E.O (live st2.heap) τ) x z->aC w' O (λ_=>False) (λ_=>Value.nilFunc) x.gT z:=λh=>pB ((h.mono W).mono (bx.less λb U=>by
   rcases U with U|⟨s,hl,_⟩
   .exact U
   .exact hl.elim))
  obtain⟨m1,m2⟩:=cF kD;refine⟨J.defers,u,hu,u,K,t',rfl,J.frame.os,J.frame.tape,J.frame.output,J.frame.size,λk hk kk=>J.frame.block k λhF=>?_,g3,by rw[g4,m1],λj d V=>?_,?_⟩
  .rcases hF with e|e
   .exact kk e
   .omega
  .obtain⟨cc,xr,Y⟩:=m2 j d V;refine⟨?_,(jE Y (g5 j cc xr).2).mono W⟩;have h1:=(g5 j cc xr).1;cases cc<;>simp[fw]at Y
   .subst Y;rcases h1 with h1|h1
    .exact h1
    .cases h1
   .subst Y;rfl
  .unfold YZ at G;split at G
   .split at G
    .rename_i xs xn;cases G;obtain⟨l1,l2⟩:=cF xn;cases xC with|tuple _ us hl hh =>
      refine .tuple _ _ (by simp[hl,l1]) λj c V=>?_
      rw[bc]at V;cases hx:xs[j]? with
      |none=>rw[hx]at V;cases V
      |some x =>
       rw[hx]at V;cases V;obtain⟨c0,kQ,hv⟩:=l2 j x hx;exact lift<|kG hv<|hh j c0 kQ
    .cases G
   .split at G
    .rename_i x hx;cases G;exact lift<|kG hx xC
    .cases G
 cases e with
 |normal=>exact key st' hq N
 |ret=>exact key st' hq N
 |exit id=>exact hq.elim
def zcB:AV->Value->Bool
 | .d (.int k n),.int D G =>decide (k=D)&&decide (n=G)
 | .d (.bool b),.bool j =>b==j
 | .d (.str s),.string t=>decide<|t.data.toList=s
 | .nil _,.slice none 0 0=>true
 | .d .jg,.map none=>true
 | .undef,_=>true
 |_,_=>false
def abW{c:AV}{v:Value}(h:zcB c v=true):kX c v:=by
 unfold zcB at h;split at h
 .simp at h;obtain⟨rfl,rfl⟩:=h;rfl
 .simp at h;subst h;rfl
 .rename_i s t;simp at h;show Value.string t= .string ⟨s.toArray⟩
  subst h;cases t;simp
 .rfl
 .rfl
 .trivial
 .cases h
def Dh:List AV->List Value->Bool
 |[],[]=>true
 |c::t,v::r=>zcB c v&&Dh t r
 |_,_=>false
def Gu:∀{l:List AV} {r:List Value},Dh l r=true->r.length=l.length/\ ∀(j:Nat) c,l[j]? =some c->kX c (r.getD j Go.undef)
 |[],[],_=>⟨rfl,λj c h=>by simp at h⟩
 |c::t,v::r,h=>by
  simp only[Dh,aK]at h;obtain⟨h1,G⟩:=Gu h.2;refine⟨by simp[h1],λj x D=>?_⟩;cases j with
  |zero=>simp at D;subst D;exact abW h.1
  |succ j=>simp at D;simpa using G j x D
 |[],_::_,h=>by cases h
 |_::_,[],h=>by cases h
def abH(agg:Bool):Value->Bool
 | .agg _=>agg
 | .tuple _=>false
 |_=> !agg
def PQ(P:Program)(t:TypeId)(D:TI):Bool :=
 match P.info? t,P.underlying t with
 | some j, some G => decide (kindOf G = D.kind) && Nat.beq j.size D.size && Nat.beq j.bytes D.bytes &&
     (match j.zero with|some z=>Dh D.zero z.cells.toList&&Nat.beq D.size D.zero.length&&abH D.kind.isAgg z|none=>false)
 |_,_=>false
def Sq{tab:List<|Nat×TI}(J:cx.ty=find tab)(h:(tab.all λp=>PQ cx.P p.1 p.2)=true):bC cx:=by
 intro t K T;rw[J]at T;have H:∀(l:List<|Nat×TI),find l t=some K->(t,K)∈l:=by
  intro l;induction l with
  |nil=>intro h;cases h
  |cons p l ih =>
   obtain⟨k,x⟩:=p;intro h;by_cases e:k=t
   .subst e;rw[bo]at h;cases h;exact .head _
   .rw[bp _ _ e]at h;exact .tail _<|ih h
 have D:=aG.1 h _<|H tab T;unfold PQ at D;split at D
 .rename_i I G h1 h2;split at D
  .rename_i z hz;simp only[aK,decide_eq_true_eq]at D;obtain⟨⟨⟨U,V⟩,W⟩,⟨X,Y⟩,N⟩:=D;obtain⟨Z,d2⟩:=Gu X;refine⟨I,G,z,h1,h2,U,bg V,bg W,hz,by simpa using Z,bg Y,λj c hj=>by simpa [List.getD] using d2 j c hj,?_⟩;cases ha:K.kind.isAgg<;>rw[ha]at N<;>cases z<;>first|rfl|(cases N;done)|exact⟨rfl,_,rfl⟩
  .simp at D
 .cases D
def uO(P:Program):Nat->List Field->List K->Bool
 |_,[],[]=>true
 |i,f::j,k::D=>Nat.beq f.offset i&&(f.name != "_")&&(match P.underlying f.type with|some d=>decide<|kindOf d=k|none=>false)&&uO P (i+1) j D
 |_,_,_=>false
def ze{P:Program}:∀{i:Nat} {G:List Field} {J:List K},uO P i G J=true->G.length=J.length/\ ∀(j:Nat) f k,G[j]? =some f->J[j]? =some k->f.offset=i+j/\f.name≠ "_" /\ ∃D,P.underlying f.type=some D/\kindOf D=k
 |_,[],[],_=>⟨rfl,λj f k h=>by simp at h⟩
 |_,[],_::_,h=>by cases h
 |_,_::_,[],h=>by cases h
 |i,f::G,k::J,h=>by
  simp only[uO,aK,bne_iff_ne]at h;obtain⟨⟨⟨h1,W⟩,N⟩,X⟩:=h;obtain⟨T,U⟩:=ze X;refine⟨by simp[T],λj g l H I=>?_⟩;cases j with
  |zero =>
   simp at H I;subst H;subst I;refine⟨by have:=bg h1;omega,W,?_⟩;split at N
   .rename_i d Y;exact⟨d,Y,of_decide_eq_true N⟩
   .cases N
  |succ j =>
   simp at H I;obtain⟨Z,V⟩:=U j g l H I;exact⟨by omega,V⟩
def Pb(P:Program)(t:TypeId)(j:List K):Bool :=
 match P.underlying t with
 |some (.struct fs)=>(P.stoodInHeld t==false)&&(P.eqGuardType P.depth t==false)&&uO P 0 fs.toList j
 |_=>false
def QF{P:Program}{tab:List<|Nat×List K}(h:(tab.all λp=>Pb P p.1 p.2)=true):∀t G,find tab t=some G->BY P t G:=by
 intro t G X;have D:∀(l:List<|Nat×List K),find l t=some G->(t,G)∈l:=by
  intro l;induction l with
  |nil=>intro h;cases h
  |cons p l Y =>
   obtain⟨k,x⟩:=p;intro h;by_cases e:k=t
   .subst e;rw[bo]at h;cases h;exact .head _
   .rw[bp _ _ e]at h;exact .tail _<|Y h
 have j:=aG.1 h _<|D tab X;unfold Pb at j;split at j
 .rename_i V H;simp only[aK,beq_iff_eq]at j;obtain⟨⟨I,J⟩,N⟩:=j;obtain⟨T,U⟩:=ze N;exact⟨V,H,I,J,T,λi f k h1 W=>by have:=U i f k h1 W;rw[Nat.zero_add]at this;exact this⟩
 .cases j
def AS(h:List<|Nat×Blk):AV->Bool
 | .own s=>(find h s).isSome
 | .ptr s _=>(find h s).isSome
 | .dy s _ _ _=>(find h s).isSome
 | .tl s _ _=>(find h s).isSome
 | .omap s=>(find h s).isSome
 | .d _=>true
 | .nil _=>true
 | .undef=>true
 |_=>false
def refs(h:List<|Nat×Blk):AV->Bool
 | .agg cs=>cs.all<|AS h
 | .tuple vs=>vs.all<|AS h
 | .fn _ a b=>a.all (AS h)&&b.all (AS h)
 |v=>AS h v
def Zb(h:List<|Nat×Blk):Blk->Bool
 | .box cells=>cells.all<|refs h
 | .fb _ _ rows=>rows.all λr=>r.all<|refs h
 | .dR m=>m.all λp=>refs h p.2
 |_=>true
def IE(st:St)(h:List<|Nat×Blk):List (Nat×AV)->Prop
 |[]=>True
 |(t,v)::r=>(st.get t=v/\refs h v=true)/\IE st h r
def rz(st:St)(h:List<|Nat×Blk):List (Nat×Blk)->Prop
 |[]=>True
 |(s,b)::r=>(find st.heap s=some b/\Zb h b=true)/\rz st h r
section
variable {w:World} {O L:Nat->Prop} {σ:Nat->Value} {h:List (Nat×Blk)}
def gz(I:∀s,live h s->L s){c:AV}{v:Value}(G:aC w O L σ c v)(j:AS h c=true):aC w O (live h) σ c v:=by
 have J:bx w w (Own O L σ)<|Own O (live h) σ:=bx.less λb D=>by
  rcases D with D|⟨s,hs,e⟩
  .exact .inl D
  .exact .inr ⟨s,I s hs,e⟩
 cases G with
 |undef=>exact .undef _
 |d x v G=>exact .d _ _<|G.mono J
 |nil=>exact .nil _
 |ptr s off b _ e=>exact .ptr s off b j e
 |own s _=>exact .own s j
 |dy s z i o b n c H _ e=>exact .dy s z i o b n c H j e
 |tl s z i b n c H _ e=>exact .tl s z i b n c H j e
 |omap s _=>exact .omap s j
 |maybe=>cases j
 |agg=>cases j
 |tuple=>cases j
 |fn=>cases j
def ji(G:∀s,live h s->L s){c:AV}{v:Value}(K:aC w O L σ c v)(D:refs h c=true):aC w O (live h) σ c v:=by
 cases K with
 |agg cs vs I J=>exact .agg _ _ I λj c H=>gz G (J j c H)<|aG.1 D c<|aw H
 |tuple cs vs I J=>exact .tuple _ _ I λj c H=>gz G (J j c H)<|aG.1 D c<|aw H
 |fn f a b xs vs U I h1 T =>
  simp only[refs,aK]at D;exact .fn _ _ _ _ _ U I (λj c H=>gz G (h1 j c H)<|aG.1 D.1 c<|aw H) λj c H=>gz G (T j c H)<|aG.1 D.2 c<|aw H
 |undef=>exact gz G (.undef _) D
 |d x v K=>exact gz G (.d x v K) D
 |nil z=>exact gz G (.nil z) D
 |ptr s off b l e=>exact gz G (.ptr s off b l e) D
 |own s l=>exact gz G (.own s l) D
 |dy s z i o b n c N l e=>exact gz G (.dy s z i o b n c N l e) D
 |tl s z i b n c N l e=>exact gz G (.tl s z i b n c N l e) D
 |omap s l=>exact gz G (.omap s l) D
 |maybe p b h=>exact gz G (.maybe p b h) D
end
def DE{st:St}{h:List<|Nat×Blk}:∀{l:List<|Nat×AV},IE st h l-> ∀t v,find l t=some v->st.get t=v/\refs h v=true
 |[],_,t,v,e=>by cases e
 |(k,x)::r,D,t,v,e=>by
  by_cases j:k=t
  .subst j;rw[bo]at e;cases e;exact D.1
  .rw[bp _ _ j]at e;exact DE D.2 t v e
def fZ{st:St}{h:List<|Nat×Blk}:∀{l:List<|Nat×Blk},rz st h l-> ∀t v,find l t=some v->find st.heap t=some v/\Zb h v=true
 |[],_,t,v,e=>by cases e
 |(k,x)::r,D,t,v,e=>by
  by_cases j:k=t
  .subst j;rw[bo]at e;cases e;exact D.1
  .rw[bp _ _ j]at e;exact fZ D.2 t v e
variable {cx:Cx}{h:List (Nat×Blk)}
def aI.keep{st:St}{sl:List<|Nat×AV}(h1:IE st h sl:=by repeat' (first|exact trivial|refine⟨⟨rfl,rfl⟩,?_⟩|refine⟨⟨bj<|by omega,rfl⟩,?_⟩))(h2:rz st h h:=by repeat' (first|exact trivial|refine⟨⟨rfl,rfl⟩,?_⟩)):aI cx st ⟨sl,h⟩:=by
 rintro E a w ⟨σ,H⟩;have U:∀s,live h s->live st.heap s:=λs hl=>by
  obtain⟨b,V⟩:=aH.1 hl;exact aH.2 ⟨b,(fZ h2 s b V).1⟩
 have W:bx w w (Own E.O (live st.heap) σ)<|Own E.O (live h) σ:=bx.less λb V=>by
  rcases V with V|⟨s,H,e⟩
  .exact .inl V
  .exact .inr ⟨s,U s H,e⟩
 refine⟨σ,H.frame,H.new,H.apart,H.defers,H.nt,λt=>?_,⟨λs b V=>?_,λs s' b l l' e e' =>H.holds.inj s s' b (U s l) (U s' l') e e'⟩,H.gR,H.ee,λq0 B hB=>⟨(H.fix q0 B hB).1,λh=>(H.fix q0 B hB).2<|U _ h⟩⟩
 .show aC w E.O (live h) σ (St.get ⟨sl,h⟩ t) _
  unfold St.get;cases hf:find sl t with
  |none=>exact .undef _
  |some v =>
   obtain⟨e1,Y⟩:=DE h1 t v hf;have:=H.aY t;rw[e1]at this;exact ji U this Y
 .obtain⟨e1,Y⟩:=fZ h2 s b V;have D:=H.holds.blk s b e1;cases b with
  |box cells =>
   obtain⟨g,cur,t,I,J,K,N,T⟩:=D;exact⟨g,cur,t,I,J,K,N,λj c G=>⟨(T j c G).1,ji U (T j c G).2<|aG.1 Y c<|aw G⟩⟩
  |row e size rows fl =>
   obtain⟨xs,I,J,K,N,T⟩:=D;refine⟨xs,I,J,K,N,λi r j d Z G=>?_⟩;obtain⟨u,hu,hd⟩:=T i r j d Z G;exact⟨u,hu,hd.mono W⟩
  |smap m =>
   obtain⟨g,es,X,I,J,K,N,T⟩:=D;refine⟨g,es,X,I,J,K,N,λj k v G=>?_⟩;obtain⟨e,he,q1,q2⟩:=T j k v G;exact⟨e,he,q1.mono W,q2.mono W⟩
  |cS m=>obtain⟨g,es,X,I,J,K,N⟩:=D;exact⟨g,es,X,I,J,K,N.mono λ_ _ h=>h.mono W⟩
  |fb e size rows =>
   obtain⟨g,cur,t,I,J,K,N,T⟩:=D;exact⟨g,cur,t,I,J,K,N,λi r j c Z G=>⟨(T i r j c Z G).1,ji U (T i r j c Z G).2<|aG.1 (aG.1 Y r<|aw Z) c<|aw G⟩⟩
  |tail e size rows=>exact⟨D.1.mono (λ_ _=>rfl) λ_ _ hr=>hr.mono W,D.2⟩
  |iter left cur=>exact⟨D.1.mono (λ_ _=>rfl) W,D.2⟩
  |dR m =>
   obtain⟨g,es,X,I,J,K,N,T⟩:=D;exact⟨g,es,X,I,J,K,N,λj k v G=>by obtain⟨e,he,q1,q2⟩:=T j k v G;exact⟨e,he,q1,ji U q2<|aG.1 Y _<|aw G⟩⟩
def sY(h:List<|Nat×Blk):AV->Bool
 | .tuple vs=>vs.all<|refs h
 |v=>refs h v
variable {w:World}{O:Nat->Prop}{v:Value}
def vf{L:Nat->Prop}{σ:Nat->Value}(D:∀s,live h s->L s){c:AV}(I:aC w O L σ c v)(G:sY h c=true):aC w O (live h) σ c v:=by
 cases c with
 |tuple vs=>cases I with|tuple _ us K J=>exact .tuple _ _ K λj c H=>ji D (J j c H)<|aG.1 G c<|aw H
 |_=>exact ji D I G
def XW{rs:List ResultVar}{v:AV}{bs:List<|Nat×Blk}{st:St}(h:nN cx st rs=some v)(h1:sY bs v=true)(h2:rz st bs bs):Li cx rs v bs st:=by
 refine .inr<|.inr ⟨v,h,λE σ a w u H hr=>⟨σ,?_,vf (λs hl=>?_) hr h1⟩⟩
 .obtain⟨σ',W⟩:∃σ',σ' =σ/\bS cx E ⟨[],bs⟩ σ' a w:=by
   have V:∀s,live bs s->live st.heap s:=λs hl=>by
    obtain⟨b,U⟩:=aH.1 hl;exact aH.2 ⟨b,(fZ h2 s b U).1⟩
   refine⟨σ,rfl,?_⟩;have X:bx w w (Own E.O (live st.heap) σ)<|Own E.O (live bs) σ:=bx.less λb U=>by
    rcases U with U|⟨s,H,e⟩
    .exact .inl U
    .exact .inr ⟨s,V s H,e⟩
   refine⟨H.frame,H.new,H.apart,H.defers,H.nt,λt=> .undef _,⟨λs b U=>?_,λs s' b l l' e e' =>H.holds.inj s s' b (V s l) (V s' l') e e'⟩,H.gR,H.ee,λq0 B hB=>⟨(H.fix q0 B hB).1,λh=>(H.fix q0 B hB).2<|V _ h⟩⟩;obtain⟨e1,e2⟩:=fZ h2 s b U;have D:=H.holds.blk s b e1;cases b with
   |box cells =>
    obtain⟨g,cur,t,I,J,K,N,T⟩:=D;exact⟨g,cur,t,I,J,K,N,λj c G=>⟨(T j c G).1,ji V (T j c G).2<|aG.1 e2 c<|aw G⟩⟩
   |row e size rows fl =>
    obtain⟨xs,I,J,K,N,T⟩:=D;refine⟨xs,I,J,K,N,λi r j d Z G=>?_⟩;obtain⟨u,hu,hd⟩:=T i r j d Z G;exact⟨u,hu,hd.mono X⟩
   |smap m =>
    obtain⟨g,es,Y,I,J,K,N,T⟩:=D;refine⟨g,es,Y,I,J,K,N,λj k v G=>?_⟩;obtain⟨e,he,q1,q2⟩:=T j k v G;exact⟨e,he,q1.mono X,q2.mono X⟩
   |cS m=>obtain⟨g,es,Y,I,J,K,N⟩:=D;exact⟨g,es,Y,I,J,K,N.mono λ_ _ h=>h.mono X⟩
   |fb e size rows =>
    obtain⟨g,cur,t,I,J,K,N,T⟩:=D;exact⟨g,cur,t,I,J,K,N,λi r j c Z G=>⟨(T i r j c Z G).1,ji V (T i r j c Z G).2<|aG.1 (aG.1 e2 r<|aw Z) c<|aw G⟩⟩
   |tail e size rows=>exact⟨D.1.mono (λ_ _=>rfl) λ_ _ hr=>hr.mono X,D.2⟩
   |iter left cur=>exact⟨D.1.mono (λ_ _=>rfl) X,D.2⟩
   |dR m =>
    obtain⟨g,es,Y,I,J,K,N,T⟩:=D;exact⟨g,es,Y,I,J,K,N,λj k v G=>by obtain⟨e,he,q1,q2⟩:=T j k v G;exact⟨e,he,q1,ji V q2<|aG.1 e2 _<|aw G⟩⟩
  obtain⟨rfl,W⟩:=W;exact W.holds
 .obtain⟨b,U⟩:=aH.1 hl;exact aH.2 ⟨b,(fZ h2 s b U).1⟩
def aI.kz{st:St}(t s sz:Nat)(e:TypeId)(D :Nat)(h1:st.get t= .nil sz)(h2:find st.heap s=none)(h3:0<D)(h4:Nat.blt s 100000=true:=by rfl):aI cx st ⟨(t,.own s)::st.aY,(s,.row e D [])::st.heap⟩:=by
 rintro E a w ⟨σ,G⟩;have hn:¬live st.heap s:=by unfold live;rw[h2];simp
 let σ' :Nat->Value:=λx=>if x=s then .slice none 0 0 else σ x
 have K:σ' s= .slice none 0 0:=if_pos rfl;have U:∀x,live st.heap x->σ' x=σ x:=λx I=>if_neg λ(e:x=s)=>hn<|e ▸ I
 have N:∀x,live ((s,Blk.row e D [])::st.heap) x ↔ x=s\/live st.heap x:=λx=>by
  have:=cP (bs:=[(s,Blk.row e D [])]) (h:=st.heap) (s:=x);rw[cN]at this;exact this
 have hk:bx w w (Own E.O (live st.heap) σ)<|Own E.O (live<|(s,Blk.row e D [])::st.heap) σ':=bx.less λb J=>by
  rcases J with J|⟨x,I,T⟩
  .exact .inl J
  .rcases (N x).1 I with rfl|I
   .rw[K]at T;cases T
   .rw[U x I]at T;exact .inr ⟨x,I,T⟩
 have W:∀x,live st.heap x->live ((s,Blk.row e D [])::st.heap) x/\σ' x=σ x:=λx I=>⟨(N x).2<|.inr I,U x I⟩
 refine⟨σ',G.frame,G.new,G.apart,G.defers,G.nt,λq=>?_,⟨λx b J=>?_,λx y b l Y f X =>?_⟩,G.gR,G.ee,λq0 B Z=>⟨(G.fix q0 B Z).1,λh=>?_⟩⟩
 .show aC w E.O (live<|(s,Blk.row e D [])::st.heap) σ' (St.get ⟨(t,.own s)::st.aY,_⟩ q) _
  by_cases hq:t=q
  .subst hq;have hv:St.get ⟨(t,AV.own s)::st.aY,(s,Blk.row e D [])::st.heap⟩ t= .own s:=by simp[St.get,bo]
   rw[hv];have V:=G.aY t;rw[h1]at V;have:a.tmps.getD t Go.undef=σ' s:=by rw[K];generalize a.tmps.getD t Go.undef=u at V;cases V;rfl
   rw[this];exact .own s<|(N s).2<|.inl rfl
  .have hv:St.get ⟨(t,AV.own s)::st.aY,(s,Blk.row e D [])::st.heap⟩ q=st.get q:=by simp[St.get,bp _ _ hq]
   rw[hv];exact(G.aY q).mono hk W
 .have H :find ((s,Blk.row e D [])::st.heap) x=some b:=J;rw[gI]at H;split at H
  .rename_i T;subst T;cases H;exact⟨[],by rw[K];exact World.ownsRow_nil w 0 e D,(λb J=>by rw[K]at J;cases J),⟨h3,λe=>by cases e⟩,λr V=>by simp at V,λi r j d hi=>by simp at hi⟩
  .have I:live st.heap x:=aH.2 ⟨b,H⟩;exact(G.holds.blk x b H).mono hk W I λg _=>rfl
 .rcases (N x).1 l with rfl|l
  .rw[K]at f;cases f
  .rcases (N y).1 Y with rfl|Y
   .rw[K]at X;cases X
   .rw[U x l]at f;rw[U y Y]at X;exact G.holds.inj x y b l Y f X
 .rcases (N _).1 h with e|h
  .have ye:=(G.fix q0 B Z).1.2;have:s<100000:=Nat.lt_of_succ_le<|bA h4;omega
  .rw[U _ h];exact(G.fix q0 B Z).2 h
def eD{n:Nat}{p:Nat->Bool}:(List.range<|n+1).all p=((List.range n).all p&&p n):=by simp[List.range_succ]
variable {k:Nat}
def eZ{n:Nat}{p:Nat->Bool}(j:k<n)(h:p k=false):(List.range n).all p=false:=by
 rw[List.all_eq_false];exact⟨k,List.mem_range.2 j,by simp[h]⟩
def wrap_i64{n:Int}(h1: -9223372036854775808<=n)(j:n<=9223372036854775807):IntKind.i64.wrap n=n:=by
 simp[IntKind.wrap,IntKind.signed,IntKind.bits];omega
def eH{f:FuncId}{args:List D}{v:AV}(N:im cx.P f)(U:QN v=true)
 (h:∀(w:World) (vs:Array Value),jO cx w->vs.size=args.length->(∀(j:Nat) d,args[j]? =some d->Rep w (λ_=>False) d (vs.getD j Go.undef)) ->
  Calls cx.P f vs w λe w' => ∃u,e= .returned u/\Below w.heap.size w w' /\aC w' (λ_=>False) (live []) (λ_=> .nilFunc) v u):Fn cx f args v []:=by
 refine⟨N,λO w vs _ K _ J G=>?_⟩;refine(h w vs K J λj d V=>(G j d V).mono (bx.less λb H=>H.elim)).mono ?_;rintro e w' ⟨u,T,H,W⟩;exact⟨u,λ_=> .nilFunc,T,H,⟨λs b I=>by simp[find]at I,λs X b I=>by simp[live,find]at I⟩,GJ W U⟩
def fh{s:List UInt8}(h:Rep w O (.str s) v):∃b:ByteArray,v= .string b/\b.data.toList=s:=by
 cases h with|str s b h=>exact⟨b,rfl,h⟩
def wN{k:IntKind}{n:Int}(h:Rep w O (.int k n) v):v= .int k n:=by cases h;rfl
def XS{b:Bool}(h:Rep w O (.bool b) v):v= .bool b:=by cases h;rfl
variable {vs:Array Value}
def vu(h:vs.size=1):vs= #[vs.getD 0 Go.undef]:=by
 apply Array.ext
 .simp[h]
 .intro i h1 j;simp at j;subst j;simp[h]
def vv(h:vs.size=2):vs= #[vs.getD 0 Go.undef,vs.getD 1 Go.undef]:=by
 apply Array.ext
 .simp[h]
 .intro i h1 j;simp at j;rcases i with _|_|i
  .simp[h]
  .simp[h]
  .omega
def Zi(h:vs.size=3):vs= #[vs.getD 0 Go.undef,vs.getD 1 Go.undef,vs.getD 2 Go.undef]:=by
 apply Array.ext
 .simp[h]
 .intro i h1 j;simp at j;rcases i with _|_|_|i
  .simp[h]
  .simp[h]
  .simp[h]
  .omega
def aL{α:Type}{f:α->List D}{l:List α}{g:α}(h:l[k]? =some g):(l.map f)[((k:Nat):Int).toNat]? =some (f g):=by simp[h]
def po(h:decide ((k:Int)>0)=true)(j:k<=4611686018427387904):0<=IntKind.i64.wrap ((k:Int)-1)/\(IntKind.i64.wrap<|(k:Int)-1).toNat=k-1:=by
 simp at h;rw[wrap_i64 (by omega)<|by omega];omega
def nB{α:Type}{f:α->List D}{l:List α}{g:α}(h:decide ((k:Int)>0)=true)(G:k<=4611686018427387904)(j:l[k-1]? =some g):(l.map f)[(IntKind.i64.wrap<|(k:Int)-1).toNat]? =some (f g):=by
 rw[(po h G).2];simp[j]
def bj(j:k<=4611686018427387904):AV.d (D.int .i64<|IntKind.i64.wrap<|(k:Int)+1)=AV.d (D.int .i64 ((k+1:Nat):Int)):=by
 rw[wrap_i64 (by omega)<|by omega];rfl
def lQ:Nat->List AV->List (Nat×AV)
 |_,[]=>[]
 |i,x::t=>(i,x)::lQ (i+1) t
def qI:∀(i:Nat) (l:List AV) (t:Nat),find (lQ i l) t=if i<=t then l[t-i]? else none
 |i,[],t=>by simp[lQ,find]
 |i,x::l,t=>by
  unfold lQ;by_cases e:i=t
  .subst e;rw[bo,if_pos<|Nat.le_refl _,Nat.sub_self];rfl
  .rw[bp _ _ e,qI (i+1) l t];by_cases h:i<=t
   .rw[if_pos h,if_pos<|by omega];obtain⟨u,j⟩:∃u,t-i=u+1:=⟨t-i-1,by omega⟩
    rw[j,List.getElem?_cons_succ]
    congr 1;omega
   .rw[if_neg h,if_neg<|by omega]
def abe{cx':Cx}(h1:cx'.P=cx.P)(G:cx'.gl=cx.gl){f:FuncId}{fe:Bool}{e:TypeId}{sz:Nat}{rows:List<|List D}{fl:Bool}{args:List D}{j :List<|List D}(h:FnR cx f fe e sz rows fl args j):FnR cx' f fe e sz rows fl args j :=by
 unfold FnR im jO at *
 rw[h1,G];exact h
def eu(w:World)(O:Nat->Prop)(sz:Nat)(rows:List<|List D)(xs:List Value):Prop :=
 ∀i r j d,rows[i]? =some r->r[j]? =some d-> ∃u,xs[i*sz+j]? =some u/\Rep w O d u
def gK(sz:Nat)(rows:List<|List D):Prop:= ∀r∈rows,r.length=sz/\ ∀d∈r,d.one=true
section
variable {w:World} {O:Nat->Prop} {sz:Nat} {rows aU:List (List D)} {xs ys:List Value}
def eu.take(h:eu w O sz rows xs)(K:gK sz rows)(n:Nat):eu w O sz (rows.take n)<|xs.take<|n*sz:=λi r j d D H=>by
 rw[List.getElem?_take]at D;split at D
 .rename_i G;obtain⟨u,N,I⟩:=h i r j d D H;refine⟨u,?_,I⟩;have J :j<sz:=by rw[<- (K r<|aw D).1];exact(aA.1 H).1
  have:(i+1)*sz<=n*sz:=Nat.mul_le_mul_right _ G;rw[Nat.add_mul]at this;rw[List.getElem?_take,if_pos<|by omega];exact N
 .cases D
def eu.drop(h:eu w O sz rows xs)(n:Nat):eu w O sz (rows.drop n)<|xs.drop<|n*sz:=λi r j d D H=>by
 rw[List.getElem?_drop]at D;obtain⟨u,I,G⟩:=h _ r j d D H;refine⟨u,?_,G⟩;rw[List.getElem?_drop, <- I,Nat.add_mul,Nat.add_assoc]
def eu.append(h:eu w O sz rows xs)(D:eu w O sz aU ys)(I:xs.length=rows.length*sz):eu w O sz (rows++aU)<|xs++ys:=λi r j d G H=>oR I (bx.refl w O) h D i r j d G H
def gK.take(h:gK sz rows)(n:Nat):gK sz<|rows.take n:=λr j=>h r<|List.mem_of_mem_take j
def gK.drop(h:gK sz rows)(n:Nat):gK sz<|rows.drop n:=λr j=>h r<|List.mem_of_mem_drop j
def gK.append(h:gK sz rows)(D:gK sz aU):gK sz<|rows++aU:=λr j=>by
 rcases List.mem_append.1 j with j|j
 .exact h r j
 .exact D r j
def eu.one(h:eu w O sz rows xs)(K:gK sz rows)(j:0<sz)(T:xs.length=rows.length*sz):∀u∈xs,u.oneCell' =true:=λu N=>by
 obtain⟨q,J,rfl⟩:=List.getElem_of_mem N;have h1:q / sz<rows.length:=Nat.div_lt_of_lt_mul (by rw[Nat.mul_comm];omega);have D:=K _<|List.getElem_mem h1;have G:q % sz<(rows[q / sz]).length:=by rw[D.1];exact Nat.mod_lt _ j
 obtain⟨z,H,I⟩:=h _ _ _ _ (ao h1)<|ao G;rw[show q / sz*sz+q % sz=q by rw[Nat.mul_comm];exact Nat.div_add_mod q sz,ao J]at H;cases H;exact I.ky<|D.2 _<|List.getElem_mem G
end
variable {cx:Cx}{w:World}{O:Nat->Prop}{u:Value}
def sH(hT:bC cx){t e ty:TypeId}{G:TI}(xl:cD cx t=some (e,G))(hA:1<=G.size){aU:List<|List D}{v:Value}(hr:Rep w O (.slice G.size aU) u)
 {n:Nat} {xs:List Value} (H:w.ownsRow 0 e G.size v n xs) (xq:n+aU.length<=maxLen) (kP:(n+aU.length)*G.bytes<=140737488355328) :
 ∃v' w' Z,(Builtin.append_ #[t,t] ty #[v,u]).run cx.P w= .ok v' w' /\w'.ownsRow 0 e G.size v' (n+aU.length) (xs++Z)/\w.grownBy w' v.ownBlock/\(∀g,home v' =some g->home v=some g\/w.heap.size<=g) /\
  (∀r∈aU,r.length=G.size/\ ∀d∈r,d.one=true)/\ ∀i r j d,aU[i]? =some r->r[j]? =some d-> ∃z,Z[i*G.size+j]? =some z/\Rep w O d z:=by
 obtain⟨ti,ht,kI,kU⟩:=cE xl;obtain⟨_,_,_,_,t2,t3,_⟩:=hT _ _ ht;rw[kI]at t3;obtain rfl:=cd t3;obtain⟨J,desc,zv,i1,i2,i3,i4,i5,i6,i7,i8,i9,i10⟩:=hT _ _ kU
 obtain ⟨ad, c, rfl, p1, p2⟩ : ∃ ad c, u = .slice ad aU.length c /\ (∀ r ∈ aU, r.length = G.size /\ ∀ d ∈ r, d.one = true) /\
     (aU≠[]-> ∃B off,ad=some ⟨B,off,none⟩/\ ∀i r j d,aU[i]? =some r->r[j]? =some d-> ∃v,w.cell? ⟨B,off+(i*G.size+j),none⟩=some v/\Rep w O d v):=by
  cases hr with
  |empty=>exact⟨_,_,rfl,λr hr=>by simp at hr,λT=>absurd rfl T⟩
  |slice _ _ B off n cap us hn hO hB hc hl h1 h2 =>
   subst hn;exact⟨_,_,rfl,hl,λ_=>⟨B,off,rfl,λi r j d W X=>⟨us i j,by rw[<- Nat.add_assoc];exact h1 i r j d W X,h2 i r j d W X⟩⟩⟩
 by_cases T:aU=[]
 .subst T;have hv:∃base cap,v= .slice base n cap/\n<=cap:=by
   rcases H.2 with ⟨rfl,rfl⟩|⟨g,cap,cur,rfl,_,_,h,_⟩
   .exact⟨none,0,rfl,Nat.le_refl _⟩
   .exact⟨_,cap,rfl,h⟩
  obtain⟨base,cap,rfl,xA⟩:=hv;refine⟨_,w,[],pz cx.P w t2 i1 xA ad c,by simpa using H,⟨rfl,rfl,rfl,Nat.le_refl _,λ_ _ _=>rfl⟩,λg hg=> .inl hg,p1,λi r j d W=>by simp at W⟩
 .obtain⟨B,off,rfl,p3⟩:=p2 T
  let f:Nat->Value:=λq=>(w.cell? ⟨B,off+q,none⟩).getD Go.undef
  have hq:∀q,q<aU.length*G.size-> ∃r d,aU[q / G.size]? =some r/\r[q % G.size]? =some d/\d.one=true:=λq hq=>by
   have h1:q / G.size<aU.length:=Nat.div_lt_of_lt_mul (by rw[Nat.mul_comm];exact hq);have h2:=ao h1;have h3:=p1 _<|List.getElem_mem h1;have h4:q % G.size<(aU[q / G.size]).length:=by rw[h3.1];exact Nat.mod_lt _ hA
   exact⟨_,_,h2,ao h4,h3.2 _<|List.getElem_mem h4⟩
  have xL:∀q,q / G.size*G.size+q % G.size=q:=λq=>by rw[Nat.mul_comm];exact Nat.div_add_mod q G.size
  have N:∀q,q<aU.length*G.size->w.cell? ⟨B,off+q,none⟩=some (f q)/\(f q).oneCell' =true:=λq K=>by
   obtain⟨r,d,h1,h2,h3⟩:=hq q K;obtain⟨z,hz,hd⟩:=p3 _ r _ d h1 h2;rw[xL]at hz;have:f q=z:=by simp[f,hz]
   rw[this];exact⟨hz,hd.ky h3⟩
  have U:((List.range<|aU.length*G.size).map f).length=aU.length*G.size:=by simp
  have I:∀j u,((List.range<|aU.length*G.size).map f)[j]? =some u->w.cell? ((⟨B,off,none⟩:Addr).add j)=some u:=λj u X=>by
   have K:j<aU.length*G.size:=by have:=(aA.1 X).1;simpa using this
   rw[dx];have:f j=u:=by simpa [K] using X
   rw[<- this];exact(N j K).1
  have Y:∀u∈(List.range<|aU.length*G.size).map f,u.oneCell' =true:=λu hu=>by
   obtain⟨q,hq,rfl⟩:=List.mem_map.1 hu;exact(N q<|by simpa using hq).2
  obtain⟨v',w',r1,r2,r3,_⟩:=run_append_own (P:=cx.P) w 0 t ty e J zv G.size G.bytes t2 i1 i6 i4 i5 (by rw[i7, <- i8]) hA v n xs H ⟨B,off,none⟩ aU.length c _ U I Y xq kP<|Nat.zero_le _;have kx:0<aU.length:=List.length_pos_iff.2 T;refine⟨v',w',_,r1,r2,r3,λg hg=>?_,p1,λi r j d W X=>?_⟩
  .have ya:n+aU.length<=9223372036854775807:=by simpa [maxLen] using xq
   rcases H.2 with ⟨rfl,rfl⟩|⟨g0,cap,cur,rfl,_,xU,xA,_,xt,_⟩
   .have:=run_append_nil (P:=cx.P) w t ty e J zv t2 i1 i6 ⟨B,off,none⟩ aU.length c _ (by rw[i4];exact U) I kx (by omega) (by rw[i5];rw[Nat.zero_add]at kP;omega);rw[this]at r1;cases r1;cases hg;exact .inr<|Nat.le_refl _
   .by_cases V:n+aU.length<=cap
    .have:=run_append_room (P:=cx.P) w t ty e J t2 i1 g0 n cap cur xU ⟨B,off,none⟩ aU.length c _ (by rw[i4];exact U) I Y V (by rw[U,xt,i4, <- Nat.add_mul];exact Nat.mul_le_mul_right _ V);rw[this]at r1;cases r1;exact .inl hg
    .have:=run_append_grow (P:=cx.P) w t ty e J zv t2 i1 i6 ⟨g0,0,none⟩ n cap xs (by rw[i4];exact H.1) (H.cells (g:=g0) rfl) ⟨B,off,none⟩ aU.length c _ (by rw[i4];exact U) I (by omega) (by omega) (by rw[i5];exact growslice_fits (by omega) kP);rw[this]at r1;cases r1;cases hg;exact .inr<|Nat.le_refl _
  .obtain⟨z,hz,hd⟩:=p3 i r j d W X;have K:i*G.size+j<aU.length*G.size:=by
    have h1:=(aA.1 W).1;have h2:=(aA.1 X).1;rw[(p1 r<|aw W).1]at h2;have:(i+1)*G.size<=aU.length*G.size:=Nat.mul_le_mul_right _ h1;rw[Nat.add_mul]at this;omega
   refine⟨z,?_,hd⟩;have:f (i*G.size+j)=z:=by simp[f,hz]
   simp[K,this]
variable {st:St}
def aI.jy(k j s sz:Nat)(cells:List AV)(e:TypeId)(G :Nat)(J:find st.heap k=some (.box cells))(Z:cells[j]? =some (.nil sz))(h2:find st.heap s=none)(h3:0<G)(h4:Nat.blt s 100000=true:=by rfl) :
 aI cx st ⟨st.aY,(s,.row e G [])::(k,.box<|cells.set j<|.own s)::st.heap⟩:=by
 rintro E a w ⟨σ,H⟩;have hn:¬live st.heap s:=by unfold live;rw[h2];simp
 have yw:k≠s:=λe=>by rw[e,h2]at J;cases J
 let σ' :Nat->Value:=λx=>if x=s then .slice none 0 0 else σ x
 have U:σ' s= .slice none 0 0:=if_pos rfl;have X:∀x,live st.heap x->σ' x=σ x:=λx I=>if_neg λ(e:x=s)=>hn<|e ▸ I
 have V:∀x,live ((s,Blk.row e G [])::(k,Blk.box<|cells.set j<|.own s)::st.heap) x ↔ x=s\/live st.heap x:=λx=>by
  have:=cP (bs:=[(s,Blk.row e G [])]) (h:=(k,Blk.box<|cells.set j<|.own s)::st.heap) (s:=x);rw[cN]at this;refine this.trans<|or_congr_right ?_;have:=cP (bs:=[(k,Blk.box<|cells.set j<|.own s)]) (h:=st.heap) (s:=x);rw[cN]at this;refine this.trans ⟨λh=>?_,.inr⟩;rcases h with rfl|h
  .exact aH.2 ⟨_,J⟩
  .exact h
 have hk:bx w w (Own E.O (live st.heap) σ)<|Own E.O (live<|(s,Blk.row e G [])::(k,Blk.box<|cells.set j<|.own s)::st.heap) σ':=bx.less λb K=>by
  rcases K with K|⟨x,I,N⟩
  .exact .inl K
  .rcases (V x).1 I with rfl|I
   .rw[U]at N;cases N
   .rw[X x I]at N;exact .inr ⟨x,I,N⟩
 have T:∀x,live st.heap x->live ((s,Blk.row e G [])::(k,Blk.box<|cells.set j<|.own s)::st.heap) x/\σ' x=σ x:=λx I=>⟨(V x).2<|.inr I,X x I⟩
 refine⟨σ',H.frame,H.new,H.apart,H.defers,H.nt,λq=>(H.aY q).mono hk T,⟨λx b K=>?_,λx y b l l' f f' =>?_⟩,H.gR,H.ee,λq0 B hB=>⟨(H.fix q0 B hB).1,λh=>?_⟩⟩
 .have D :find ((s,Blk.row e G [])::(k,Blk.box<|cells.set j<|.own s)::st.heap) x=some b:=K;rw[gI]at D;split at D
  .rename_i N;subst N;cases D;exact⟨[],by rw[U];exact World.ownsRow_nil w 0 e G,(λb K=>by rw[U]at K;cases K),⟨h3,λe=>by cases e⟩,λr hr=>by simp at hr,λi r j d W=>by simp at W⟩
  .rw[gI]at D;split at D
   .rename_i N;subst N;cases D;have I:live st.heap k:=aH.2 ⟨_,J⟩;have hold:du w E.F E.O (live st.heap) σ k<|.box cells:=H.holds.blk k _ J;have xc:du w E.F E.O _ σ' k<|.box cells:=hold.mono hk T I λg _=>rfl
    obtain⟨b,cur,t,k1,k2,k3,k4,k5⟩:=xc;refine⟨b,cur,t,k1,k2,k3,by rw[List.length_set];exact k4,λi c W=>?_⟩;by_cases Y:j=i
    .subst Y;have hM:j<cells.length:=(aA.1 Z).1;rw[List.getElem?_set_self hM]at W;cases W;refine⟨.inl rfl,?_⟩;have hr:=(k5 j _ Z).2;have:cur.getD j Go.undef=σ' s:=by rw[U];generalize cur.getD j Go.undef=u at hr;cases hr;rfl
     rw[this];exact .own s<|(V s).2<|.inl rfl
    .rw[List.getElem?_set_ne Y]at W;exact k5 i c W
   .have I:live st.heap x:=aH.2 ⟨b,D⟩;exact(H.holds.blk x b D).mono hk T I λg _=>rfl
 .rcases (V x).1 l with rfl|l
  .rw[U]at f;cases f
  .rcases (V y).1 l' with rfl|l'
   .rw[U]at f';cases f'
   .rw[X x l]at f;rw[X y l']at f';exact H.holds.inj x y b l l' f f'
 .rcases (V _).1 h with e|h
  .have ye:=(H.fix q0 B hB).1.2;have:s<100000:=Nat.lt_of_succ_le<|bA h4;omega
  .rw[X _ h];exact(H.fix q0 B hB).2 h
def aaU(pv:Int->Value)(F O:Nat->Prop)(h:List<|Nat×Blk)(σ:Nat->Value)(w' :World)(j:Ending):Option (AV×List (Nat×Blk))->Prop
 |some (x,h')=> ∃u σ',j= .returned u/\Holds w' F O h' σ' /\(∀s∈cV h,live h' s->σ' s=σ s)/\aC w' O (live h') σ' x u
 |none=> ∃e:Int,e≠0/\j= .panicked [{v:=pv e,recovered:=false}]
def FnP(cx:Cx)(pv:Int->Value)(f:FuncId)(args:List AV)(h:List<|Nat×Blk)(out:Option<|AV×List (Nat×Blk)):Prop :=
 im cx.P f/\ ∀(O:Nat->Prop) (w:World) (σ:Nat->Value) (vs:Array Value),(∀b,O b->b<w.heap.size)->jO cx w->(∀g cells,cx.gl g=some cells-> ¬O g/\ ¬dX h σ g)->(∀b,O b-> ¬dX h σ b) ->
  Holds w (dX h σ) O h σ->vs.size=args.length->(∀(j:Nat) c,args[j]? =some c->aC w O (live h) σ c (vs.getD j Go.undef)) ->
  Calls cx.P f vs w λD w' =>we (λb=>dX h σ b\/w.heap.size<=b) w w' /\aaU pv (λb=>dX h σ b\/w.heap.size<=b) O h σ w' D out
def Ee(cx:Cx)(pv:Int->Value)(st:St)(f:AV)(args:List AV)(D:St->Prop)(k:AV->St->Prop):Prop :=
 match callee f with
 | some (g, a, b) => ∃ (j : List Nat) (out : Option<|AV × List (Nat × Blk)), FnP cx pv g (a ++ args ++ b) (dZ j st.heap) out /\
     ((a++args++b).all (iN ((dZ j st.heap).map (·.1)))=true/\(dZ j st.heap).all (λp=>Fh ((dZ j st.heap).map (·.1)) p.2)=true/\(cw j st.heap).all (λp=>yL ((match out with|some _=>cV<|dZ j st.heap|none=>[])++(cw j st.heap).map (·.1)) p.2)=true) /\
     match out with
     |some (x,h')=>((cV<|dZ j st.heap).all (λs=>(find h' s).isSome)=true/\(h'.map (·.1)).all (λs=>(Nat.blt s 100000||fy (cV<|dZ j st.heap) s)&& !fy j s)=true)/\k x ⟨uV (cV (dZ j st.heap)++(cw j st.heap).map (·.1)) st.aY,cw j st.heap++h'⟩
     |none=>D ⟨uV ((cw j st.heap).map (·.1)) st.aY,cw j st.heap⟩
 |none=>False
def oP{p:Nat×Blk}:∀(l:List<|Nat×Blk),p∈l->live l p.1
 |[],h=>by cases h
 |q::t,j=>by
  by_cases e:q.1=p.1
  .exact aH.2 ⟨q.2,by rw[<- e];exact bo ..⟩
  .rcases List.mem_cons.1 j with rfl|j
   .exact absurd rfl e
   .obtain⟨b,D⟩:=aH.1<|oP t j;exact aH.2 ⟨b,by rw[show q=(q.1,q.2)from rfl,bp _ _ e];exact D⟩
def sx:Nat->List AV->List AV
 |_,[]=>[]
 |0,_::t=> .undef::sx 0 t
 |n+1,c::t=>(match c with| .d x=> .d x|_=> .undef)::sx n t
def Xu:AV->AV
 | .agg cs=> .agg<|sx 7 cs
 |v=>v
def Xw:AV->AV
 | .ptr _ _=> .undef
 |v=>v
variable {L:Nat->Prop}{σ:Nat->Value}
def Xx{v:AV}(h:aC w O L σ v u):aC w O L σ (Xw v) u:=by
 cases h with
 |ptr=>exact .undef _
 |undef=>exact .undef _
 |d x v h=>exact .d _ _ h
 |nil=>exact .nil _
 |own s j=>exact .own s j
 |dy s size i off b n cap H j h=>exact .dy s size i off b n cap H j h
 |tl s size i b n cap H j h=>exact .tl s size i b n cap H j h
 |omap s j=>exact .omap s j
 |maybe p b h=>exact .maybe p b h
 |agg cs vs G h=>exact .agg cs vs G h
 |tuple cs vs G h=>exact .tuple cs vs G h
 |fn f first D xs vs J G h1 I=>exact .fn f first D xs vs J G h1 I
def CB:∀(n:Nat) (cs:List AV) (j:Nat) (c:AV),(sx n cs)[j]? =some c->c= .undef\/cs[j]? =some c
 |_,[],_,_,h=>by simp[sx]at h
 |0,x::t,0,c,h=>by simp[sx]at h;exact .inl h.symm
 |0,x::t,j+1,c,h=>by simp[sx]at h;simpa using CB 0 t j c h
 |n+1,x::t,0,c,h=>by
  simp only[sx,List.getElem?_cons_zero,Option.some.injEq]at h;cases x<;>simp at h<;>first|exact .inl h.symm|exact .inr (by simp[h])
 |n+1,x::t,j+1,c,h=>by simp[sx]at h;simpa using CB n t j c h
def CC:∀(n:Nat) (cs:List AV),(sx n cs).length=cs.length
 |_,[]=>rfl
 |0,x::t=>by simp[sx,CC 0 t]
 |n+1,x::t=>by simp[sx,CC n t]
def Xv{v:AV}(h:aC w O L σ v u):aC w O L σ (Xu v) u:=by
 cases h with
 |agg cs vs G h =>
  refine .agg _ _ (G.trans (CC 7 cs).symm) λj c D=>?_
  rcases CB 7 cs j c D with rfl|hc
  .exact .undef _
  .exact h j c hc
 |_=>constructor<;>assumption
variable {pv:Int->Value}{o:Oper}{Qp:St->Prop}{E:Env}{a:Act}{K:Act->World->Prop}{Q:Exit->Act->World->Prop}
def La{c:Call}{f:Operand}{k:AV->St->Prop}(ho:o.op= .call c)(hc:c.callee= .value f){as:List AV}(has:∃m:AV->AV,(∀(w:World) (O L:Nat->Prop) (σ:Nat->Value) v u,aC w O L σ v u->aC w O L σ (m v) u)/\as=(cA cx st c.args.toList c.argTypes.toList).map m)(h:Ee cx pv st (st.ev cx f) as Qp k)
      (hd:∀e,o.dst=some e->e<E.nt) (hC:Sim cx E st a w)
 (hK:∀v st1 a' w',k v st1->Sim cx E ⟨bW st1.aY o.dst v,st1.heap⟩ a' w' ->K a' w')
 (hQ:∀(st1:St) w' (e:Int),e≠0->Qp st1->Sim cx E st1 a w' ->Q (.panic [{v:=pv e,recovered:=false}]) a w'):o.wp cx.P a w K Q:=by
 unfold Ee at h;split at h
 case h_2=>exact h.elim
 rename_i g xs ys Y;obtain⟨H,out,xH,⟨c4,c5,c6⟩,hk⟩:=h;obtain⟨σ,I⟩:=hC;obtain⟨us,vs,hu,s1,s2,r1,r2⟩:=qd Y<|I.ev (St.le.refl st) f;obtain⟨l1,l2⟩:as.length=c.args.toList.length/\ ∀(j:Nat) cc,as[j]? =some cc-> ∃x,c.args.toList[j]? =some x/\aC w E.O (live st.heap) σ cc (a.eval x):=by
  obtain⟨l1,l2⟩:=jB (St.le.refl st) I c.args.toList c.argTypes.toList;obtain⟨m,hm,rfl⟩:=has;refine⟨by rw[au];exact l1,λj cc hj=>?_⟩;rw[bc]at hj;cases hx:(cA cx st c.args.toList c.argTypes.toList)[j]? with
  |none=>rw[hx]at hj;cases hj
  |some c0 =>
   rw[hx]at hj;cases hj;obtain⟨x,h1,h2⟩:=l2 j c0 hx;exact⟨x,h1,hm _ _ _ _ _ _ h2⟩
 obtain⟨⟨fn,xP,xQ,xu⟩,kp⟩:=xH;have kW :¬fn.name= "runtime.NumGoroutine" :=by simpa using xQ
 have kY :¬fn.body=none:=by intro e;rw[e]at xu;cases xu
 have xj:(execOp a.eval o).run cx.P w= .ok (.enter g<|us++c.args.map a.eval++vs) w:=by
  simp[execOp,ho,resolve,hc,hu,Deferred.ofValue,invoke,callFunc,xP,kW,kY]
 have kO:=qC (R:=aC w E.O (live st.heap) σ) (A:=xs) (B:=as) (C:=ys) (ys:=c.args.map a.eval) s1 (by simp[l1]) r1 (λj cc hj=>by
  obtain⟨x,hx,hr⟩:=l2 j cc hj;have:(c.args.map a.eval).getD j Go.undef=a.eval x:=by rw[bE]at hx;simp[hx]
  rw[this];exact hr) r2
 have hA:(us++c.args.map a.eval++vs).size=(xs++as++ys).length:=by simp[s1,s2,l1]
 have X:∀s,live (dZ H st.heap) s ↔ live st.heap s/\fy H s=false:=λs=>by
  unfold live;rw[rR];cases fy H s<;>simp
 have N:∀s,live (cw H st.heap) s ↔ live st.heap s/\fy H s=true:=λs=>by
  unfold live;rw[pJ];cases fy H s<;>simp
 obtain⟨O',hX⟩:∃O' :Nat->Prop,O' =λb=>E.O b\/dX (cw H st.heap) σ b:=⟨_,rfl⟩
 have kh:∀b,dX (cw H st.heap) σ b->E.F b/\b<w.heap.size:=λb ⟨s,G,e⟩=>I.holds.home ((N s).1 G).1 e
 have ki:∀b,dX (dZ H st.heap) σ b->E.F b/\b<w.heap.size:=λb ⟨s,G,e⟩=>I.holds.home ((X s).1 G).1 e
 have hU:∀b,dX (cw H st.heap) σ b-> ¬dX (dZ H st.heap) σ b:=λb ⟨s,G,e⟩ ⟨U,T,e'⟩=>by
  have:=I.holds.inj s U b ((N s).1 G).1 ((X U).1 T).1 e e';subst this;have h1:=((N s).1 G).2;rw[((X s).1 T).2]at h1;cases h1
 have hE:∀b,Own O' (live<|dZ H st.heap) σ b ↔ Own E.O (live st.heap) σ b:=λb=>by
  rw[hX];constructor
  .rintro((D|⟨s,G,e⟩)|⟨s,G,e⟩)
   .exact .inl D
   .exact .inr ⟨s,((N s).1 G).1,e⟩
   .exact .inr ⟨s,((X s).1 G).1,e⟩
  .rintro(D|⟨s,G,e⟩)
   .exact .inl<|.inl D
   .cases hf:fy H s with
    |true=>exact .inl<|.inr ⟨s,(N s).2 ⟨G,hf⟩,e⟩
    |false=>exact .inr ⟨s,(X s).2 ⟨G,hf⟩,e⟩
 have xy:bx w w (Own E.O (live st.heap) σ)<|Own O' (live<|dZ H st.heap) σ:=bx.less λb D=>(hE b).1 D
 have kt:∀s∈(dZ H st.heap).map (·.1),live (dZ H st.heap) s:=λs hm=>by
  obtain⟨p,hp,rfl⟩:=List.mem_map.1 hm;exact oP _ hp
 have kf := kp O' w σ (us ++ c.args.map a.eval ++ vs) (fun b D => by
     rw[hX]at D;rcases D with D|D
     .exact I.sW b<|.inl D
     .exact(kh b D).2) I.qj (λg cells xV=>by
     obtain⟨g1,g2⟩:=I.ee g cells xV;refine⟨λY=>?_,λY=>g1 (ki g Y).1⟩;rw[hX]at Y;rcases Y with Y|Y
     .exact g2 Y
     .exact g1 (kh g Y).1)
  (λb D hH=>by
   rw[hX]at D;rcases D with D|D
   .exact I.apart b D (ki b hH).1
   .exact hU b D hH) ⟨λs b D=>by
    have hZ :find st.heap s=some b:=by
     rw[rR]at D;split at D
     .cases D
     .exact D
    have hm:=aG.1 c5 _<|gj D;exact((Gt (I.holds.blk s b hZ) hm kt xy)).inF λg Y=>⟨s,aH.2 ⟨b,D⟩,Y⟩,λs U b G T =>I.holds.inj s U b ((X s).1 G).1 ((X U).1 T).1⟩ hA
  (λj cc hj=>qf (kO j cc hj) (aG.1 c4 cc<|aw hj) kt xy)
 simp only[Oper.wp,xj,Oper.upon];refine kf.mono λen w' =>?_
 rintro⟨J,kv⟩;have hF:∀b,(dX (dZ H st.heap) σ b\/w.heap.size<=b)->E.F b:=λb D=>by
  rcases D with D|D
  .exact(ki b D).1
  .exact I.new b<|Nat.le_trans I.frame.size D
 cases out with
 |none =>
  obtain⟨e,he,rfl⟩:=kv;dsimp only;refine hQ _ w' e he hk ?_;have W:bx w w' (Own E.O (live st.heap) σ)<|Own E.O (live<|cw H st.heap) σ:=by
   refine⟨J.size,λb D hM=>J.block b λV=>?_,λb D hM Z =>?_⟩
   .rcases V with ⟨s,G,e⟩|V
    .exact D<|.inr ⟨s,((X s).1 G).1,e⟩
    .omega
   .rcases Z with Z |⟨s,G,e⟩
    .exact D<|.inl Z
    .exact D<|.inr ⟨s,((N s).1 G).1,e⟩
  refine⟨σ,⟨J.os.trans I.frame.os,J.tape.trans I.frame.tape,J.output.trans I.frame.output,Nat.le_trans I.frame.size J.size,λb D=>(J.block b λV=>D<|hF b V).trans<|I.frame.block b D⟩,
   I.new,I.apart,I.defers,I.nt,λt=>?_,⟨λs b D=>?_,λs U b G T =>I.holds.inj s U b ((N s).1 G).1 ((N U).1 T).1⟩,I.gR,I.ee,λq0 B hB=>⟨(I.fix q0 B hB).1,λG=>(I.fix q0 B hB).2 ((N q0).1 G).1⟩⟩
  .have hr:=I.aY t;unfold St.get at hr ⊢;rw[sO];cases hf:find st.aY t with
   |none=>exact .undef _
   |some v =>
    rw[hf]at hr;dsimp only[Option.map_some];by_cases hv:iN ((cw H st.heap).map (·.1)) v=true
    .rw[if_pos hv];exact mH hr hv W λx hx=>by
      obtain⟨p,hp,rfl⟩:=List.mem_map.1 hx;exact⟨oP _ hp,rfl⟩
    .rw[if_neg hv];exact .undef _
  have G:live (cw H st.heap) s:=aH.2 ⟨b,D⟩;have hZ :find st.heap s=some b:=by
   have D:find (cw H st.heap) s=some b:=D;rw[pJ]at D;split at D
   .exact D
   .cases D
  have kl:=aG.1 c6 _<|gj D;have kl:yL ((cw H st.heap).map (·.1)) b=true:=kl;refine xf (I.holds.blk s b hZ) kl (List.mem_map.2 ⟨_,gj D,rfl⟩) (λx hx=>?_) (λg Y=>J.block g λV=>?_) W
  .obtain⟨p,hp,rfl⟩:=List.mem_map.1 hx;exact⟨oP _ hp,rfl⟩
  .have kr:dX (cw H st.heap) σ g:=⟨s,G,Y⟩
   rcases V with V|V
   .exact hU g kr V
   .have:=(kh g kr).2;omega
 |some xh =>
  obtain⟨x,h'⟩:=xh;obtain⟨u,σ',rfl,ks,kq,hS⟩:=kv;obtain⟨⟨c1,c2⟩,hk⟩:=hk;dsimp only;have yb:∀s,live h' s->fy H s=false:=λs G=>by
   obtain⟨b,D⟩:=aH.1 G;have:=aG.1 c2 s<|List.mem_map.2 ⟨_,gj D,rfl⟩;rw[aK]at this;simpa using this.2
  have hW:∀s,live (cw H st.heap++h') s ↔ live (cw H st.heap) s\/live h' s:=λs=>by
   unfold live;rw[tU];cases find (cw H st.heap) s<;>simp
  obtain⟨τ,hτ⟩:∃τ:Nat->Value,τ=λs=>if fy H s=true then σ s else σ' s:=⟨_,rfl⟩
  have tE:∀s,live (cw H st.heap) s->τ s=σ s:=λs G=>by rw[hτ];exact if_pos ((N s).1 G).2
  have tH:∀s,live h' s->τ s=σ' s:=λs G=>by rw[hτ];exact if_neg (by rw[yb s G];simp)
  have hY:∀b,Own E.O (live<|cw H st.heap++h') τ b->Own O' (live h') σ' b:=λb D=>by
   rw[hX];rcases D with D|⟨s,G,e⟩
   .exact .inl<|.inl D
   .rcases (hW s).1 G with G|G
    .exact .inl<|.inr ⟨s,G,by rw[<- tE s G];exact e⟩
    .exact .inr ⟨s,G,by rw[<- tH s G];exact e⟩
  have xx:bx w' w' (Own O' (live h') σ')<|Own E.O (live<|cw H st.heap++h') τ:=bx.less hY;have W:bx w w' (Own E.O (live st.heap) σ)<|Own E.O (live<|cw H st.heap++h') τ:=by
   refine⟨J.size,λb D hM=>J.block b λV=>?_,λb D hM Z =>?_⟩
   .rcases V with ⟨s,G,e⟩|V
    .exact D<|.inr ⟨s,((X s).1 G).1,e⟩
    .omega
   .have Z :=hY b Z;rw[hX]at Z;rcases Z with (Z |⟨s,G,e⟩)|⟨s,G,e⟩
    .exact D<|.inl Z
    .exact D<|.inr ⟨s,((N s).1 G).1,e⟩
    .rcases (ks.home G e).1 with ⟨U,T,e'⟩|V
     .exact D<|.inr ⟨U,((X U).1 T).1,e'⟩
     .omega
  have xv:∀s∈cV (dZ H st.heap)++(cw H st.heap).map (·.1),live (cw H st.heap++h') s/\τ s=σ s:=λs hm=>by
   rcases List.mem_append.1 hm with hm|hm
   .have G:live h' s:=aG.1 c1 s hm;exact⟨(hW s).2<|.inr G,by rw[tH s G];exact kq s hm G⟩
   .obtain⟨p,hp,rfl⟩:=List.mem_map.1 hm;have G:live (cw H st.heap) p.1:=oP _ hp;exact⟨(hW _).2<|.inl G,tE _ G⟩
  have xJ:∀s b,find (cw H st.heap) s=some b->du w' E.F E.O (live<|cw H st.heap++h') τ s b:=λs b D=>by
   have G:live (cw H st.heap) s:=aH.2 ⟨b,D⟩;have hZ :find st.heap s=some b:=by
    rw[pJ]at D;split at D
    .exact D
    .cases D
   have kl:=aG.1 c6 _<|gj D;have kl:yL (cV (dZ H st.heap)++(cw H st.heap).map (·.1)) b=true:=kl;refine xf (I.holds.blk s b hZ) kl (List.mem_append.2<|.inr<|List.mem_map.2 ⟨_,gj D,rfl⟩) (λx hx=>xv x hx) (λg Y=>J.block g λV=>?_) W;have kr:dX (cw H st.heap) σ g:=⟨s,G,Y⟩
   rcases V with V|V
   .exact hU g kr V
   .have:=(kh g kr).2;omega
  refine hK x _ _ _ hk ?_;refine⟨τ,⟨J.os.trans I.frame.os,J.tape.trans I.frame.tape,J.output.trans I.frame.output,Nat.le_trans I.frame.size J.size,λb D=>(J.block b λV=>D<|hF b V).trans<|I.frame.block b D⟩,
   I.new,I.apart,?_,?_,λt=>?_,⟨λs b D=>?_,λs U b G T e e' =>?_⟩,I.gR,I.ee,λq0 B hB=>?_⟩
  .cases o.dst<;>exact I.defers
  .cases o.dst<;>simp[Act.put,I.nt]
  .show aC w' E.O (live<|cw H st.heap++h') τ (St.get (St.put ⟨uV (cV (dZ H st.heap)++(cw H st.heap).map (·.1)) st.aY,cw H st.heap++h'⟩ o.dst x []) t) _
   rw[St.gY,jV<|by rw[I.nt];exact hd];by_cases e:o.dst=some t
   .rw[if_pos e,if_pos e];exact hS.mono xx λs G=>⟨(hW s).2<|.inr G,tH s G⟩
   .rw[if_neg e,if_neg e];have hr:=I.aY t;unfold St.get at hr ⊢;rw[sO];cases hf:find st.aY t with
    |none=>exact .undef _
    |some v =>
     rw[hf]at hr;dsimp only[Option.map_some];by_cases hv:iN (cV (dZ H st.heap)++(cw H st.heap).map (·.1)) v=true
     .rw[if_pos hv];exact mH hr hv W xv
     .rw[if_neg hv];exact .undef _
  .have D:find (cw H st.heap++h') s=some b:=D;rw[tU]at D;cases he:find (cw H st.heap) s with
   |some b' =>rw[he]at D;cases D;exact xJ s _ he
   |none =>
    rw[he]at D;have G:live h' s:=aH.2 ⟨b,D⟩;exact(du.mono xx (λs G=>⟨(hW s).2<|.inr G,tH s G⟩) G (λ_ _=>rfl)<|ks.blk s b D).inF λg Y=>hF g (ks.home G<|by rw[<- tH s G];exact Y).1
  .have key:∀s U,live (cw H st.heap) s->live h' U ->home (τ s)=some b->home (τ U)=some b->False:=λs U h1 h2 k1 k2=>by
    rw[tE s h1]at k1;rw[tH U h2]at k2;have Y:dX (cw H st.heap) σ b:=⟨s,h1,k1⟩
    rcases (ks.home h2 k2).1 with V|V
    .exact hU b Y V
    .have:=(kh b Y).2;omega
   have G:live (cw H st.heap++h') s:=G;have T :live (cw H st.heap++h') U :=T;rcases (hW s).1 G with h1|h1
   .rcases (hW U).1 T with h2|h2
    .exact I.holds.inj s U b ((N s).1 h1).1 ((N U).1 h2).1 (by rw[<- tE s h1];exact e) (by rw[<- tE U h2];exact e')
    .exact(key s U h1 h2 e e').elim
   .rcases (hW U).1 T with h2|h2
    .exact(key U s h2 h1 e' e).elim
    .exact ks.inj s U b h1 h2 (by rw[<- tH s h1];exact e) (by rw[<- tH U h2];exact e')
  .obtain⟨f1,f2⟩:=I.fix q0 B hB;refine⟨f1,λG=>?_⟩;have G:live (cw H st.heap++h') q0:=G;rcases (hW q0).1 G with G|G
   .rw[tE q0 G];exact f2 ((N q0).1 G).1
   .obtain⟨b,D⟩:=aH.1 G;have hm:=aG.1 c2 q0<|List.mem_map.2 ⟨_,gj D,rfl⟩;rw[aK,Bool.or_eq_true]at hm;rcases hm.1 with hm|hm
    .have:=Nat.lt_of_succ_le<|bA hm;omega
    .have hZ :=ll hm;obtain⟨_,cells,xK⟩:=lF hZ;rw[tH q0 G,kq q0 hZ G];exact f2 ((X q0).1<|aH.2 ⟨_,xK⟩).1
def pOf(cx:Cx)(st:St)(o:Oper):Option (AV×List AV) :=
 match o.op with
 | .call c=>(match c.callee with
  | .value f=>(match callee (st.ev cx f)with
   |some (g,_,_)=>(match Nat.beq (cx.chg g) 9 with
    |true=>some (st.ev cx f,cA cx st c.args.toList c.argTypes.toList)
    |false=>(match Nat.beq (cx.chg g) 10 with
     |true=>some (st.ev cx f,(cA cx st c.args.toList c.argTypes.toList).map Xu)
     |false=>(match Nat.beq (cx.chg g) 11 with
      |true=>some (st.ev cx f,(cA cx st c.args.toList c.argTypes.toList).map Xw)
      |false=>none)))
   |none=>none)
  |_=>none)
 |_=>none
def UA{f:AV}{as:List AV}(h:pOf cx st o=some (f,as)):∃c x,o.op= .call c/\c.callee= .value x/\f=st.ev cx x/\(∃m:AV->AV,(∀(w:World) (O L:Nat->Prop) (σ:Nat->Value) v u,aC w O L σ v u->aC w O L σ (m v) u)/\as=(cA cx st c.args.toList c.argTypes.toList).map m):=by
 unfold pOf at h;split at h
 .rename_i c D;split at h
  .rename_i x j;split at h
   .split at h
    .cases h;exact⟨c,x,D,j,rfl,id,λ_ _ _ _ _ _ h=>h,(List.map_id _).symm⟩
    .split at h
     .cases h;exact⟨c,x,D,j,rfl,Xu,λ_ _ _ _ _ _ h=>Xv h,rfl⟩
     .split at h
      .cases h;exact⟨c,x,D,j,rfl,Xw,λ_ _ _ _ _ _ h=>Xx h,rfl⟩
      .cases h
   .cases h
  .cases h
 .cases h
def ab5(cx:Cx)(st:St)(o:Oper):Bool :=
 match o.op with
 | .call c=>(match c.callee with
  | .value (.tmp t)=>(match callee (st.ev cx<|.tmp t)with|some (g,_,_)=>Nat.beq (cx.chg g) 6|none=>false)
  |_=>false)
 |_=>false
def IN(cx:Cx)(pv:Int->Value)(D:St->Prop)(nt:Nat)(o:Oper)(st:St)(k:St->Prop):Prop :=
 match pOf cx st o with
 |some (f,as)=>(match ed nt o.dst with
  |true=>Ee cx pv st f as D λv j=>k ⟨bW j.aY o.dst v,j.heap⟩
  |false=>False)
 |none=>(match ab5 cx st o with|true=>EO cx nt o st k|false=>mZ cx nt false o st k)
def Vz(cx:Cx)(pv:Int->Value)(j:St->Prop)(E:Env)(e:Exit)(a:Act)(w:World):Prop :=
 match e with
 | .panic D=> ∃(h1:St) (ev:Int),ev≠0/\j h1/\D=[{v:=pv ev,recovered:=false}]/\Sim cx E h1 a w
 |_=>False
variable {nt:Nat}{k:St->Prop}
def Yj(N:bC cx)(H:E.nt=nt)(h:IN cx pv Qp nt o st k)(I:Sim cx E st a w) :
 o.wp cx.P a w (λG w' => ∃D,k D/\Sim cx E D G w') (Vz cx pv Qp E):=by
 unfold IN at h;split at h
 .rename_i f as hp;split at h
  .rename_i U;obtain⟨c,x,X,T,rfl,has⟩:=UA hp;exact La X T has h (by rw[H];exact eC U) I (λv D G w' W j =>⟨_,W,j⟩) λh1 w' e V Y j =>⟨h1,e,V,Y,rfl,j⟩
  .exact h.elim
 .split at h
  .obtain⟨D,J,K⟩:=Lw N h;exact Oper.wp_mono (λG w' j =>⟨D,K,j⟩)<|J E a w _ H I
  .obtain⟨D,J,K⟩:=lp N h;exact Oper.wp_mono (λG w' j =>⟨D,K,j⟩)<|J E a w _ H I
def FO(ops:List Oper)(t:Nat):Bool:=ops.all λo=>match o.dst with|some d=> !(Nat.beq d t)|none=>true
def Dt(ops:List Oper)(l:List<|Nat×AV):List<|Nat×AV:=l.filter λq=>FO ops q.1
def abD(ops:List Oper)(j:St->Prop):St->Prop:=λst=>j ⟨Dt ops st.aY,st.heap⟩
def Dx(ops:List Oper)(t:Nat):∀l:List (Nat×AV),find (Dt ops l) t=match FO ops t with|true=>find l t|false=>none
 |[]=>by cases FO ops t<;>rfl
 |(k,v)::l=>by
  have j:=Dx ops t l;unfold Dt at j ⊢;rw[List.filter_cons];by_cases e:k=t
  .subst e;cases D:FO ops k with
   |true=>rw[if_pos rfl,bo,bo]
   |false=>rw[if_neg<|by decide,j,D]
  .rw[bp _ _ e];split
   .rw[bp _ _ e,j]
   .exact j
def aaF{ops:List Oper}{h1:St}{p:Act}(h:Sim cx E h1 p w)(G:p.defers=a.defers)(H:p.tmps.size=a.tmps.size)(J:∀t,FO ops t=true->p.tmps.getD t Go.undef=a.tmps.getD t Go.undef):Sim cx E ⟨Dt ops h1.aY,h1.heap⟩ a w:=by
 obtain⟨σ,j⟩:=h;refine⟨σ,j.frame,j.new,j.apart,G ▸ j.defers,H ▸ j.nt,λt=>?_,j.holds,j.gR,j.ee,j.fix⟩;have D:=j.aY t;unfold St.get at D ⊢;rw[Dx];cases I:FO ops t with
 |true=>rw[<- J t I];exact D
 |false=>exact .undef _
def aaS{P:Program}{D:Nat->Prop}{p:Act}(h:Agr D p a){ops:List Oper}(H:∀cs b,o.op≠ .select cs b)(U:∀t∈looks ops o,¬D t)
 (j:o.wp P p w K<|Vz cx pv Qp E) (J:∀e w',Vz cx pv Qp E e p w' ->Q e a w'):o.wp P a w (λN w' => ∃p',K p' w' /\Agr (λt=>D t/\o.dst≠some t) p' N) Q:=by
 unfold Oper.wp at j ⊢;rw[h.exec H U]at j;generalize (execOp a.eval o).run P w=r at j ⊢;cases r with
 |ok n w' =>
  cases n<;>simp only[Oper.upon]at j ⊢
  case value u=>exact⟨_,j,h.put _ _⟩
  case skip=>exact⟨_,j,h.put _ _⟩
  case defer d =>
   refine⟨_,j,?_⟩;have:Agr D {p with defers:=d::p.defers} {a with defers:=d::a.defers}:=⟨by simp[h.1],h.2.1,h.2.2⟩
   exact this.put _ _
  case enter f args =>
   refine Calls.mono j λe I G=>?_
   cases e with
   |returned u=>exact⟨_,G,h.put _ _⟩
   |panicked c=>exact J _ _ G
   |outgrown=>obtain⟨_,_,T⟩:=G;exact T.elim
  case row row args=>exact Rows.mono j λu I G=>⟨_,G,h.put _ _⟩
 |halt x w' =>
  cases x<;>simp only[Oper.upon]at j ⊢;exact J _ _ j
def mw(cx:Cx)(pv:Int->Value)(D:St->Prop)(nt:Nat)(ops:List Oper)(k:St->Prop):Nat->List Nat->List Nat->St->Prop
 |0,_,_,_=>False
 |f+1,done,j,st=>(match kE ops (mD ops done)with
  |some i=>(match ops[i]? with
   |some o=>lA ops st o (IL cx nt o st λst' =>mw cx pv D nt ops k f (i::done) (i::j) st') (match ed nt o.dst with|true=>mw cx pv D nt ops k f (i::done) (i::j)<|st.put o.dst (.tuple []) []|false=>False)
   |none=>False)
  |none=>(match mD ops done with
   |[]=>k st
   |i::t=>Qd (λi=>(match ops[i]? with
    |some o=>lA ops st o (IN cx pv (abD ops D) nt o st λst' =>AZ cx ops st st' (wJ ops i j)<|mw cx pv D nt ops k f (i::done) j st') (match ed nt o.dst with|true=>mw cx pv D nt ops k f (i::done) j<|st.put o.dst (.tuple []) []|false=>False)
    |none=>False))<|i::t))
variable {ops:Array Oper}
def Vt(hT:bC cx)(hn:E.nt=nt)(kg:nW ops.toList=true)
 (h:mw cx pv Qp nt ops.toList k (ops.size+1) [] [] st) (hs:Sim cx E st a w) (hQ:∀st' a' w',k st' ->Sim cx E st' a' w' ->Q .normal a' w') (hP:∀st1 a' w' (e:Int),e≠0->Qp st1->Sim cx E st1 a' w' ->Q (.panic [{v:=pv e,recovered:=false}]) a' w'):wpAny cx.P .any ops Q ops.size (Array.replicate ops.size false) a {w with drawn:=w.drawn+1}:=by
 have yg:Sim cx E st a {w with drawn:=w.drawn+1}:=by
  obtain⟨σ,hs⟩:=hs;have hk:bx w {w with drawn:=w.drawn+1} (Own E.O (live st.heap) σ) (Own E.O (live st.heap) σ):=⟨Nat.le_refl _,λ_ _ _=>rfl,λ_ h _=>h⟩
  have kc:∀s,live st.heap s->live st.heap s/\σ s=σ s:=λs h=>⟨h,rfl⟩
  exact⟨σ,⟨hs.frame.os,hs.frame.tape,hs.frame.output,hs.frame.size,hs.frame.block⟩,hs.new,hs.apart,hs.defers,hs.nt,λt=>(hs.aY t).mono hk kc,
   ⟨λs b hb=>du.mono hk kc (aH.2 ⟨b,hb⟩) (λ_ _=>rfl)<|hs.holds.blk s b hb,hs.holds.inj⟩,hs.gR,hs.ee,hs.fix⟩
 have hc:=JA kg;generalize kS:(λi:Nat=>((closure ops.toList [])[i]?).getD [])=cl at hc;generalize xa:AH ops.toList (closure ops.toList [])=lt at hc;have Z:∀{o:Oper},ed nt o.dst=true-> ∀e,o.dst=some e->e<E.nt:=λh=>by rw[hn];exact eC h
 have prog:∀(D:Array Bool),D.size=ops.size->Region.ready .any ops D=[]-> ∀j,j<ops.size->D.getD j false=true:=by
  intro D hA hr j;induction j using Nat.strongRecOn with
  |_ j ih =>
   intro H;cases hlj:D.getD j false with
   |true=>rfl
   |false =>
    have N:ops.toList[j]? =some ops[j]:=by rw[bE];exact Array.getElem?_eq_getElem H
    have:j∈Region.ready .any ops D:=(jF hA).2 ⟨ops[j],N,hlj,λe he=>by
     have:=hc.QD j _ N e he;exact ih e this<|by omega⟩
    rw[hr]at this;cases this
 have key : ∀ (T : Nat) (D : Array Bool), D.size = ops.size -> ((List.range ops.size).filter fun j => !D.getD j false).length <= T -> ∀ (f : Nat) (done J : List Nat) (st : St) (a : Act) (w : World), mw cx pv Qp nt ops.toList k f done J st ->
     Inv cx nt ops cl lt E (λj=>D.getD j false) done J st a w->wpAny cx.P .any ops Q T D a w:=by
  intro T;induction T with
  |zero =>
   intro D hA kT;have X:∀j,j<ops.size->D.getD j false=true:=λj H=>by
    cases h:D.getD j false with
    |true=>rfl
    |false =>
     have:j∈(List.range ops.size).filter λj=> !D.getD j false:=List.mem_filter.2 ⟨List.mem_range.2 H,by simp[h]⟩
     have:=List.length_pos_of_mem this;omega
   intro f;cases f with
   |zero=>intro done J st a w h _;exact h.elim
   |succ f =>
    intro done J st a w h K;refine⟨?_,?_⟩
    .rw[List.eq_nil_iff_forall_not_mem];intro i K;obtain⟨o,N,h1,_⟩:=(jF hA).1 K;have:i<ops.size:=by have:=(aA.1 N).1;simpa using this
     rw[X i this]at h1;cases h1
    .have hR:mD ops.toList done=[]:=by
      rw[List.eq_nil_iff_forall_not_mem];intro i kj;obtain⟨o,N,h1,_⟩:=kR.1 kj;exact h1<|K.sub i (X i<|by have:=(aA.1 N).1;simpa using this)
     simp only[mw,hR,kE]at h;obtain⟨p,hp,U⟩:=K.act;have xg:p=a:=U.eq λt ⟨x,o,_,I,N,_⟩=>by
      have:=X x (by have:=(aA.1 N).1;simpa using this);rw[this]at I;cases I
     exact hQ st a w h<|xg ▸ hp
  |succ T ih =>
   intro D hA kT f;induction f with
   |zero=>intro done J st a w h _;exact h.elim
   |succ f yt =>
    intro done J st a w h K;rw[mw]at h;split at h
    . -- gone over at once
      rename_i i xS;obtain⟨kj,⟨o,N,hp⟩,xb⟩:=lJ xS;rw[xa]at xb;obtain⟨o',kJ,xB,kH⟩:=kR.1 kj;rw[N]at kJ;cases kJ;rw[N]at h;dsimp only at h;have yc:D.getD i false=false:=by
       cases hl:D.getD i false with
       |false=>rfl
       |true=>exact absurd (K.sub i hl) xB
      obtain⟨p,W,U⟩:=K.act
      have next : ∀ {v : AV} {z : Value}, ed nt o.dst = true -> Sim cx E (st.put o.dst v []) (p.put o.dst z) w -> ((ie ops.toList st o true /\ opK cx o.dst o.type st o.op (nf v [])) \/ (ie ops.toList st o false /\ v = .tuple [])) ->
          mw cx pv Qp nt ops.toList k f (i::done) (i::J) (st.put o.dst v [])->wpAny cx.P .any ops Q (T+1) D a w:=by
       intro v z hd hC xe hk;refine yt _ _ _ _ _ hk ⟨λj H=>aZ _<|K.sub j H,⟨_,hC,?_⟩,λx I G=>?_,λj H x I=>?_,K.AA⟩
       .refine(U.XR o.dst z).mono λt ht=>?_
        rcases ht with ⟨x,ox,h1,h2,h3,h4⟩|e
        .exact⟨x,ox,aZ _ h1,h2,h3,h4⟩
        .exact⟨i,o,List.mem_cons_self .., yc,N,e⟩
       .rcases List.mem_cons.1 I with rfl|I
        .exact⟨⟨List.mem_cons_self .., xb⟩,He hc N hp hd xe⟩
        .exact⟨⟨aZ _ (K.re x I G).1.1,(K.re x I G).1.2⟩,xX hc K.mW N xB I (.inl xb) (K.re x I G).2⟩
       .rcases List.mem_cons.1 H with rfl|H
        .exact aZ _ (tw hc (S:=(· ∈done)) K.mW N kH x I)
        .exact aZ _<|K.mW j H x I
      rcases oT h with ⟨hw,h⟩|⟨hw,h⟩
      .unfold IL at h;split at h
       .rename_i hd;obtain⟨v,bs,hk,_,H⟩:=FT h;split at hk
        .obtain⟨v',xE,xd,rfl,rfl⟩:=uo hT H;obtain⟨_,km⟩:=xd.2 hp;obtain⟨σ,kc⟩:=W;obtain⟨z,_,xk⟩:=km E st σ p w (St.le.refl _) kc;exact next hd ⟨σ,kc.put (Z hd) xk⟩ (.inl ⟨hw,H⟩) hk
        .exact hk.elim
       .exact h.elim
      .split at h
       .rename_i hd;exact next hd (jk (Z hd) W) (.inr ⟨hw,rfl⟩) h
       .exact h.elim
    .rename_i ku;refine⟨λhr=>?_,λi kj=>?_⟩
     .have X:=prog D hA hr;have hR:mD ops.toList done=[]:=by
       rw[List.eq_nil_iff_forall_not_mem];intro i kj;obtain⟨o,N,h1,_⟩:=kR.1 kj;exact h1<|K.sub i (X i<|by have:=(aA.1 N).1;simpa using this)
      rw[hR]at h;obtain⟨p,hp,U⟩:=K.act;have xg:p=a:=U.eq λt ⟨x,o,_,I,N,_⟩=>by
       have:=X x (by have:=(aA.1 N).1;simpa using this);rw[this]at I;cases I
      exact hQ st a w h<|xg ▸ hp
     .obtain⟨o,N,xw,hJ⟩:=(jF hA).1 kj;have kh:i<ops.size:=by have:=(aA.1 N).1;simpa using this
      have kJ :ops[i]? =some o:=by rw[<- bE];exact N
      have ka:∀x∈cl i,D.getD x false=true:=tw hc (S:=λx=>D.getD x false=true) K.AA N hJ;have V:∀j,(D.setIfInBounds i true).getD j false=if j=i then true else D.getD j false:=λj=>by
       simp only[bU];by_cases e:j=i
       .subst e;simp[show j<D.size by omega]
       .rw[if_neg e,Array.getElem?_setIfInBounds_ne λh=>e h.symm]
      have kB :(D.setIfInBounds i true).size=ops.size:=by simp[hA]
      have kb :((List.range ops.size).filter λj=> !(D.setIfInBounds i true).getD j false).length<=T:=by
       have:=Dk (p:=λj=> !D.getD j false) (p' :=λj=> !(D.setIfInBounds i true).getD j false) (λj H=>by
        rw[V]at H;split at H
        .simp at H
        .exact H) (i:=i) (by simp only[xw];rfl) (by rw[V];simp)<|List.mem_range.2 kh
       omega
      have kZ:=K.Pq hc N ka;have kA:=hc.sel i o N;have hI:∀j,(D.setIfInBounds i true).getD j false=true-> ∀x∈cl j,(D.setIfInBounds i true).getD x false=true:=λj H x I=>by
       rw[V];split
       .rfl
       .rw[V]at H;split at H
        .rename_i e;subst e;exact ka x I
        .exact K.AA j H x I
      have hD : ∀ (dn : List Nat), (∀ x ∈ done, x ∈ dn) -> ∀ t, (∃ x o, x ∈ done /\ D.getD x false = false /\ ops.toList[x]? = some o /\ o.dst = some t) /\ o.dst ≠ some t ->
          ∃x o,x∈dn/\(D.setIfInBounds i true).getD x false=false/\ops.toList[x]? =some o/\o.dst=some t:=by
       rintro dn xM t ⟨⟨x,ox,h1,h2,h3,h4⟩,kk⟩;refine⟨x,ox,xM x h1,?_,h3,h4⟩;rw[V,if_neg]
       .exact h2
       .intro e;subst e;rw[N]at h3;cases h3;exact kk h4
      obtain⟨p,W,U⟩:=K.act;have Y:=U.wanted kZ;unfold wpOp;rw[kJ];dsimp only;by_cases hid:i∈done
      . -- it was gone over
        obtain⟨_,o2,v,kK,hp,hd,hv,xe⟩:=K.re i hid xw;rw[N]at kK;cases kK;have fin:∀{z:Value},Sim cx E (st.put o.dst v []) (p.put o.dst z) w->wpAny cx.P .any ops Q T (D.setIfInBounds i true) (a.put o.dst z) w:=by
         intro z hC;have kV:Sim cx E st (p.put o.dst z) w:=hC.ext (λt=>by
          rw[St.gY];split
          .rename_i e;exact hv t e
          .rfl) λs=>rfl
         refine ih _ kB kb (f+1) done J st _ w (by rw[mw,ku];exact h) ⟨λj H=>?_,⟨_,kV,(U.put o.dst z).mono (hD done λx I=>I)⟩,λx I G=>?_,K.mW,hI⟩
         .rw[V]at H;split at H
          .rename_i e;subst e;exact hid
          .exact K.sub j H
         .rw[V]at G;split at G
          .cases G
          .exact K.re x I G
        rcases xe with ⟨hw,hk⟩|⟨hw,e⟩
        .have kn:=iB hw (λd _=>rfl) W;rw[<- Y,kn,if_pos rfl];obtain⟨v',xE,xd,rfl,rfl⟩:=uo hT hk;obtain⟨_,km⟩:=xd.2 hp;obtain⟨σ,kc⟩:=W;obtain⟨z,hz,xk⟩:=km E st σ p w (St.le.refl _) kc;rw[U.exec kA kZ]at hz;refine .inl ?_;simp only[Oper.wp,hz,Oper.upon];exact fin ⟨σ,kc.put (Z hd) xk⟩
        .have kn:=iB hw (λd _=>rfl) W;rw[<- Y,kn];simp only[eV,if_false];subst e;exact fin (jk (Z hd) W)
      . -- it comes up
        have kH:∀e∈gL o,e∈done:=λe he=>K.sub e<|hJ e he
        have hV:i∈mD ops.toList done:=kR.2 ⟨o,N,hid,kH⟩;have kC:lA ops.toList st o (IN cx pv (abD ops.toList Qp) nt o st λst' =>AZ cx ops.toList st st' (wJ ops.toList i J)<|mw cx pv Qp nt ops.toList k f (i::done) J st') (match ed nt o.dst with|true=>mw cx pv Qp nt ops.toList k f (i::done) J<|st.put o.dst (.tuple []) []|false=>False):=by
         split at h
         .rename_i hR;rw[hR]at hV;cases hV
         .rename_i x t I;rw[I]at hV;have:=Cb h i hV;rw[N]at this;exact this
        have fin : ∀ {st1 : St} {p' a' : Act} {w' : World}, mw cx pv Qp nt ops.toList k f (i :: done) J st1 -> Sim cx E st1 p' w' -> Agr (fun t => (∃ x o, x ∈ done /\ D.getD x false = false /\ ops.toList[x]? = some o /\ o.dst = some t) /\ o.dst ≠ some t) p' a' ->
            (∀x∈done,D.getD x false=false->(x∈J/\lt x=false)/\tK cx nt ops.toList st1 x)->wpAny cx.P .any ops Q T (D.setIfInBounds i true) a' w' :=by
         intro st1 p' a' w' hk hC ke xi;refine ih _ kB kb f _ _ _ _ _ hk ⟨λj H=>?_,⟨_,hC,ke.mono (hD (i::done) λx I=>aZ _ I)⟩,λx I G=>?_,λj H x I=>?_,hI⟩
         .rw[V]at H;split at H
          .rename_i e;subst e;exact List.mem_cons_self ..
          .exact aZ _<|K.sub j H
         .rw[V]at G;split at G
          .cases G
          .rename_i kk;rcases List.mem_cons.1 I with e|I
           .exact absurd e kk
           .exact xi x I G
         .rcases List.mem_cons.1 H with rfl|H
          .exact aZ _ (tw hc (S:=(· ∈done)) K.mW N kH x I)
          .exact aZ _<|K.mW j H x I
        rcases oT kC with ⟨hw,hy⟩|⟨hw,hy⟩
        .have kn:=iB hw (λd _=>rfl) W;rw[<- Y,kn,if_pos rfl];refine .inl (Oper.wp_mono (λa' w' =>?_) (aaS U kA kZ (Yj hT hn hy W) λe w' hq=>?_))
         rotate_left
         .cases e<;>first|exact hq.elim|skip
          obtain⟨h1,ev,xO,yf,rfl,yh⟩:=hq;exact hP ⟨Dt ops.toList h1.aY,h1.heap⟩ _ _ ev xO yf (aaF yh U.1 U.2.1 λt ht=>U.2.2 t λ⟨x,ox,_,_,kK,xN⟩=>by
           have:=aG.1 ht ox<|aw kK;rw[xN]at this;simp at this)
         rintro⟨p',⟨st1,k2,xm⟩,ke⟩;obtain⟨k2,yk⟩:=CL k2;refine fin k2 xm ke λx I G=>?_
         obtain⟨xD,xi⟩:=K.re x I G;refine⟨xD,HQ xi<|yk x ?_⟩;unfold wJ;refine List.mem_filter.2 ⟨xD.1,?_⟩;have kt:¬x∈cl i:=λhm=>by rw[ka x hm]at G;cases G
         rw[<- kS]at kt;simp only[Bool.not_eq_true', <- Bool.not_eq_true];exact λe=>kt<|dN.1 e
        .have kn:=iB hw (λd _=>rfl) W;rw[<- Y,kn];simp only[eV,if_false];split at hy
         .rename_i hd;exact fin hy (jk (Z hd) W) (U.put o.dst Go.undef) λx I G=>⟨(K.re x I G).1,xX hc K.mW N hid I (.inr λhm=>by rw[ka x hm]at G;cases G) (K.re x I G).2⟩
         .exact hy.elim
 refine key ops.size _ (by simp) ?_ (ops.size+1) [] [] st a _ h ⟨λj H=>?_,⟨a,yg,rfl,rfl,λt _=>rfl⟩,λx I=>(by cases I),λj H=>(by cases H),λj H=>?_⟩
 .refine Nat.le_trans (List.length_filter_le _ _) (by simp)
 .simp[bU,Array.getElem?_replicate]at H;split at H<;>simp at H
 .simp[bU,Array.getElem?_replicate]at H;split at H<;>simp at H
def Yz(J:bC cx)(K:cx.P.follows .mixedOrders=true){id:Nat}(N:E.nt=nt)(j:nW ops.toList=true)
 (h:mw cx pv Qp nt ops.toList k (ops.size+1) [] [] st) (T:Sim cx E st a w) (I:∀st' D w',k st' ->Sim cx E st' D w' ->Q .normal D w') (H:∀G D w' (e:Int),e≠0->Qp G->Sim cx E G D w' ->Q (.panic [{v:=pv e,recovered:=false}]) D w'):(Code.region id ops true).wp cx.P Q a w:=wp_region_any K<|Vt J N j h T I H
def Qs(hT:bC cx){t e ty:TypeId}{H:TI}(X:cD cx t=some (e,H))(hz:H.zero.all AV.one=true){g o n c:Nat}(hn:0<n){cur:Array Value}{t' :TypeId}(hg:w.heap[g]? =some (.cells cur t' (0,0)))(hl:o+n*H.size<=cur.size) :
 ∃(D:Value) (T:List Value),T=(Builtin.zeroCells D.cells n).toList/\D.cells.size=H.zero.length/\(∀(j:Nat) c,H.zero[j]? =some c->kX c (D.cells.getD j Go.undef))/\(∀v∈T,v.oneCell' =true)/\T.length=n*H.size/\(Builtin.clear_ #[t] ty #[.slice (some ⟨g,o,none⟩) n c]).run cx.P w= .ok (.tuple #[]) (w.setRow g (cur.toList.take o++T++cur.toList.drop (o+T.length)).toArray):=by
 obtain⟨ti,ht,W,V⟩:=cE X;obtain⟨_,_,_,_,t2,t3,_⟩:=hT _ _ ht;rw[W]at t3;obtain rfl:=cd t3;obtain⟨info,desc,D,i1,i2,i3,i4,i5,i6,Z,i8,i9,i10⟩:=hT _ _ V;have Y:(zeroValue e).run cx.P w= .ok D w:=by simp[zeroValue,typeInfo,i1,i6]
 have I:∀q,q<D.cells.size->(D.cells[q]!).oneCell' =true:=λq U=>by
  have K :q<H.zero.length:=by omega
  have h1:=i9 q _<|ao K;have h2:=aG.1 hz _<|List.getElem_mem K;have h3:D.cells.getD q Go.undef=D.cells[q]! :=by simp[U]
  rw[h3]at h1;obtain⟨_,h4⟩:=iK (w:=w) (O:=λ_=>False) (L:=λ_=>False) (σ:=λ_=> .nilFunc) h1;exact h4.ky (λs hs=>hs.elim) h2
 have G:∀v∈(Builtin.zeroCells D.cells n).toList,v.oneCell' =true:=λv hv=>by
  simp[Builtin.zeroCells]at hv;obtain⟨q,U,rfl⟩:=hv;have J:0<D.cells.size:=by
   rcases Nat.eq_zero_or_pos D.cells.size with h|h
   .rw[h]at U;simp at U
   .exact h
  simpa using I (q % D.cells.size) (Nat.mod_lt _ J)
 refine⟨D,(Builtin.zeroCells D.cells n).toList,rfl,Z,i9,G,by simp[Builtin.zeroCells,Z, <- i8],?_⟩;have N:=run_storeCells_at (P:=cx.P) g o t' (Builtin.zeroCells D.cells n).toList 0 cur w hg (by simp[Builtin.zeroCells,Z, <- i8];omega) G;simp only[Nat.add_zero]at N;obtain⟨m,rfl⟩:∃m,n=m+1:=⟨n-1,by omega⟩
 simp[Builtin.clear_,run_underlying t2,Y,N]
def Nb{G:TI}{zs:List Value}{H:Value}{n:Nat}{z:List D}(T:H.cells.size=G.zero.length)(I:G.size=G.zero.length)(kx:0<G.size)(yr:zs=(Builtin.zeroCells H.cells n).toList)(hz:cB fw G.zero=some z)(h:∀(j:Nat) c,G.zero[j]? =some c->kX c (H.cells.getD j Go.undef)) :
 eu w (Own O L σ) G.size (List.replicate n z) zs/\gK G.size (List.replicate n z):=by
 obtain⟨l1,l2⟩:=cF hz;have yq:z.length=G.size:=l1.trans I.symm;have U:∀(j:Nat) x,z[j]? =some x->x.one=true/\Rep w (Own O L σ) x (H.cells.getD j Go.undef):=λj x K=>by
  obtain⟨cc,X,J⟩:=l2 j x K;obtain⟨W,e2⟩:=iK (w:=w) (O:=O) (L:=L) (σ:=σ)<|h j cc X;refine⟨?_,jE J e2⟩;rcases W with W|rfl
  .cases cc<;>simp only[fw]at J<;>first|(cases J;exact W)|(cases J;rfl)|cases J
  .cases J
 refine⟨λa r j d V K=>?_,λr hr=>?_⟩
 .rw[List.getElem?_replicate]at V;split at V
  case isFalse=>cases V
  rename_i Z;cases V;have Y:j<G.size:=by have:=(aA.1 K).1;omega
  refine⟨H.cells.getD j Go.undef,?_,(U j d K).2⟩;rw[yr,bE];unfold Builtin.zeroCells;have N:a*G.size+j<n*H.cells.size:=by
   rw[T, <- I];have:(a+1)*G.size<=n*G.size:=Nat.mul_le_mul_right _ Z;rw[Nat.add_mul]at this;omega
  rw[Array.getElem?_map,Array.getElem?_range,if_pos N];have:(a*G.size+j) % H.cells.size=j:=by
   rw[T, <- I,Nat.mul_comm,Nat.mul_add_mod];exact Nat.mod_eq_of_lt Y
  simp only[Option.map_some,this];rw[getElem!_def,bU];have:j<H.cells.size:=by omega
  simp[this]
 .obtain⟨_,rfl⟩:=List.mem_replicate.1 hr;exact⟨yq,λx hx=>by obtain⟨j,K,rfl⟩:=List.getElem_of_mem hx;exact(U j _<|ao K).1⟩
section
variable {cx:Cx} {st:St}
def Yo(Z:bC cx){o:Oper}{t:TypeId}{x X:Operand}(ho:o.op= .slice t x (some X) none none){e:TypeId}{I:TI}(V:cD cx t=some (e,I)){s:Nat}{kd:IntKind}{l:Int}(hx:st.ev cx x= .own s)(U:st.ev cx X= .d (.int kd l))
 {e' :TypeId} {rows:List<|List D} {fl:Bool} (hf:find st.heap s=some (.row e' I.size rows fl)) (h0:0<=l) (hl:l.toNat<rows.length):lW cx o st ⟨bW st.aY o.dst<|.tl s I.size l.toNat,st.heap⟩:=by
 obtain⟨i,rfl⟩:∃i:Nat,l=(i:Int):=⟨l.toNat,by omega⟩
 rw[Int.toNat_natCast]at hl ⊢;intro E a w Q hd ⟨σ,hs⟩;obtain⟨ti,ht,T,K⟩:=cE V;obtain⟨_,_,_,_,t2,t3,_⟩:=Z _ _ ht;rw[T]at t3;obtain rfl:=cd t3;obtain⟨_,r2⟩:=dU (w:=w) Z K;have H:=hs.ev (St.le.refl st) x;rw[hx]at H;have j:=hs.ev (St.le.refl st) X;rw[U]at j;have j:=j.int;obtain⟨xs,q1,q2,q3,q4,q5⟩:=hs.holds.blk s _ hf;rcases q1.2 with ⟨_,e0⟩|⟨g,cap,cur,Y,_,g3,g4,g5,g6,g7⟩
 .omega
 have hL:live st.heap s:=aH.2 ⟨_,hf⟩;have W:a.eval x=σ s:=by generalize a.eval x=u at H;cases H;rfl
 have J:¬cap=i:=by omega
 have N:i<=rows.length:=by omega
 have G:(execOp a.eval o).run cx.P w= .ok (.value<|.slice (some ⟨g,0+i*I.size,none⟩) (rows.length-i)<|cap-i) w:=by
  simp[execOp,ho,W,Y,j,Instr.sliceAt,Instr.slice,Instr.sliceBounds,Instr.sliceBound,run_underlying t2,asIntOf,N,r2,J,dx]
 simp only[Oper.wp,G,Oper.upon];exact⟨σ,hs.put hd<|.tl s I.size i g rows.length cap 0 hL Y⟩
def ZB(hT:bC cx){o:Oper}{t:TypeId}{x hi:Operand}(ho:o.op= .slice t x none (some hi) none){e:TypeId}{H:TI}(xl:cD cx t=some (e,H)){s:Nat}{kd:IntKind}{l:Int}(hx:st.ev cx x= .own s)(xZ:st.ev cx hi= .d (.int kd l))
 {V :TypeId} {rows:List<|List D} {fl:Bool} (hf:find st.heap s=some (.row V H.size rows fl)) (h0:0<=l) (hl:l.toNat<rows.length):lW cx o st ⟨bW (jo s st.aY) o.dst<|.own s,(s,.row V H.size<|rows.take l.toNat)::fG s st.heap⟩:=by
 obtain⟨i,rfl⟩:∃i:Nat,l=(i:Int):=⟨l.toNat,by omega⟩
 rw[Int.toNat_natCast]at hl ⊢;intro E a w Q Z ⟨σ,hs⟩;obtain⟨ti,ht,kI,kU⟩:=cE xl;obtain⟨_,_,_,_,t2,t3,_⟩:=hT _ _ ht;rw[kI]at t3;obtain rfl:=cd t3;obtain⟨_,r2⟩:=dU (w:=w) hT kU;have K:=hs.ev (St.le.refl st) x;rw[hx]at K;have I:=hs.ev (St.le.refl st) hi;rw[xZ]at I;have I:=I.int;obtain⟨xs,q1,q2,q3,q4,q5⟩:=hs.holds.blk s _ hf;rcases q1.2 with ⟨_,e0⟩|⟨g,cap,cur,W,_,g3,g4,g5,g6,g7⟩
 .omega
 have hL:live st.heap s:=aH.2 ⟨_,hf⟩;have kL:a.eval x=σ s:=by generalize a.eval x=u at K;cases K;rfl
 have T:i<=cap:=by omega
 have J:(execOp a.eval o).run cx.P w= .ok (.value<|.slice (some ⟨g,0,none⟩) i cap) w:=by
  simp[execOp,ho,kL,W,I,Instr.sliceAt,Instr.slice,Instr.sliceBounds,Instr.sliceBound,run_underlying t2,asIntOf,r2,T,dx]
 simp only[Oper.wp,J,Oper.upon];have N:home (σ s)=some g:=by rw[W];rfl
 have kM:xs.length=rows.length*H.size:=q1.1;have G:(rows.take i).length=i:=by rw[List.length_take];omega
 have hle:i*H.size<=rows.length*H.size:=Nat.mul_le_mul_right _ (by omega);have xo:xs.take (i*H.size)=cur.toList.take (i*H.size):=by
  rw[<- g7,List.take_take,Nat.min_eq_left hle]
 obtain⟨σ3,yi⟩:=hs.LI (s:=s) (b:= .row V H.size<|rows.take i) (w' :=w) (d:=o.dst) (u:= .slice (some ⟨g,0,none⟩) i cap) (τ:= .slice (some ⟨g,0,none⟩) i cap) (v:= .own s) Z hL (λx e=>by rw[W]at e;cases e) rfl rfl rfl (Nat.le_refl _) (λk _ _=>rfl)
  (λg' xT =>by cases xT;exact .inl N)
  (λσ' U hk=>by
   refine⟨xs.take<|i*H.size,?_,λb hb=>?_,⟨q3.1,λe=>by cases e⟩,λr hr=>q4 r<|List.mem_of_mem_take hr,?_⟩
   .refine⟨by rw[G,List.length_take,kM];omega,.inr ⟨g,cap,cur,by rw[G];exact U,Nat.zero_le _,g3,by rw[G];exact T,g5,g6,by rw[G,xo]⟩⟩
   .rw[U]at hb;cases hb;exact q2 g N
   .have X:eu w (Own E.O (live st.heap) σ) H.size rows xs:=q5;have Y:gK H.size rows:=q4;intro a r j d ha hj;obtain⟨u,hu,Z⟩:=X.take Y i a r j d ha hj;exact⟨u,hu,Z.mono hk⟩)
  (λσ' U=>by
   have:=aC.own (w:=w) (O:=E.O) (σ:=σ') s hL;rw[U]at this;exact this)
 exact⟨σ3,yi⟩
def Zx(hT:bC cx){o:Oper}{t:TypeId}{x:Operand}(ho:o.op= .call {callee:= .builtin .clear,args:= #[x],argTypes:= #[t]}){e:TypeId}{G:TI}(Z:cD cx t=some (e,G)){z:List D}(hz:cB fw G.zero=some z){s i:Nat}(hx:st.ev cx x= .tl s G.size i)
 {rows:List<|List D} {fl:Bool} (hf:find st.heap s=some (.row e G.size rows fl)) (hl:i<rows.length):lW cx o st ⟨bW st.aY o.dst<|.tuple [],(s,.row e G.size (rows.take i++List.replicate (rows.length-i) z) fl)::st.heap⟩:=by
 intro E a w Q hd ⟨σ,hs⟩;obtain⟨ti,ht,kI,K⟩:=cE Z;obtain⟨_,_,_,_,_,_,_,i8,_,_⟩:=hT _ _ K;have U:=hs.ev (St.le.refl st) x;rw[hx]at U;obtain⟨xs,q1,q2,q3,q4,q5⟩:=hs.holds.blk s _ hf;rcases q1.2 with ⟨_,e0⟩|⟨g,cap,cur,eσ,_,g3,g4,g5,g6,g7⟩
 .omega
 have hL:live st.heap s:=aH.2 ⟨_,hf⟩;have yj:G.size=G.zero.length:=by obtain⟨_,_,_,_,_,_,_,_,_,_,h,_⟩:=hT _ _ K;exact h
 have X:G.zero.all AV.one=true:=by
  rw[aG];intro c hc;obtain⟨j,T⟩:=cO hc;obtain⟨l1,l2⟩:=cF hz;have xW:j<z.length:=by rw[l1];exact(aA.1 T).1
  obtain⟨cc,W,xR⟩:=l2 j _<|ao xW;rw[T]at W;cases W;obtain⟨_,_,zv,_,_,_,_,_,_,_,_,i9,_⟩:=hT _ _ K;obtain⟨V,e2⟩:=iK (w:=w) (O:=E.O) (L:=live st.heap) (σ:=σ)<|i9 j c T;rcases V with V|rfl
  .exact V
  .cases xR
 have hle:i*G.size+(rows.length-i)*G.size=rows.length*G.size:=by rw[<- Nat.add_mul];congr 1;omega
 have kL:a.eval x= .slice (some ⟨g,0+i*G.size,none⟩) (rows.length-i) (cap-i):=by
  generalize a.eval x=u at U
  cases U with|tl _ _ _ g' n' xF o0 yv V=>rw[eσ]at V;cases V;rfl
 rw[Nat.zero_add]at kL;obtain⟨zv,zs,z1,z2,z3,z4,z5,z6⟩:=Qs (cx:=cx) hT (w:=w) (t:=t) (e:=e) (ty:=o.type) Z X (g:=g) (o:=i*G.size) (n:=rows.length-i) (c:=cap-i) (by omega) g3 (by
  rw[hle,g6];exact Nat.mul_le_mul_right _ g4)
 have N:(execOp a.eval o).run cx.P w= .ok (.value<|.tuple #[]) (w.setRow g (cur.toList.take (i*G.size)++zs++cur.toList.drop (i*G.size+zs.length)).toArray):=by
  simp[execOp,ho,resolve,invoke,builtin,kL,z6]
 simp only[Oper.wp,N,Oper.upon];have hIn:eu w (Own E.O (live st.heap) σ) G.size rows xs:=q5;have xI:gK G.size rows:=q4;have kM:xs.length=rows.length*G.size:=q1.1;have I:i*G.size<=rows.length*G.size:=Nat.mul_le_mul_right _ (by omega);have xt:rows.length*G.size<=cap*G.size:=Nat.mul_le_mul_right _ g4;have H:(rows.take i++List.replicate (rows.length-i) z).length=rows.length:=by simp;omega
 have xo:xs.take (i*G.size)=cur.toList.take (i*G.size):=by
  rw[<- g7,List.take_take,Nat.min_eq_left I]
 have J:(xs.take (i*G.size)++zs).length=rows.length*G.size:=by
  rw[List.length_append,z5,List.length_take,kM];omega
 have ka:cur.toList.length=cap*G.size:=by rw[Array.length_toList];exact g6
 refine⟨σ,hs.write (s:=s) (g:=g) (d:=o.dst) (v:= .tuple []) (u:= .tuple #[]) hd hL (by rw[eσ];rfl) rfl rfl rfl (by simp[World.setRow]) (λk hk=>setRow_other w g k _ hk) (λhk=>?_) λw' => .tuple _ _ rfl λj c T=>by simp at T⟩;obtain⟨yo,yp⟩:=Nb (n:=rows.length-i) z2 yj q3.1 z1 hz z3 (w:=w) (O:=E.O) (L:=live st.heap) (σ:=σ);refine⟨xs.take (i*G.size)++zs,?_,q2,⟨q3.1,λe=>by rw[H];exact q3.2 e⟩,?_,?_⟩
 .refine⟨by rw[H];exact J,.inr ⟨g,cap,_,by rw[H];exact eσ,Nat.zero_le _,setRow_heap w g cur _ _ _ g3,by rw[H];exact g4,g5,?_,?_⟩⟩
  .simp only[List.size_toArray,List.length_append,List.length_take,List.length_drop,ka,z5];omega
  .rw[H];show List.take (rows.length*G.size) (cur.toList.take (i*G.size)++zs++_)=_
   rw[<- xo, <- J,List.take_left'];rfl
 .intro r Y;rcases List.mem_append.1 Y with Y|Y
  .exact q4 r<|List.mem_of_mem_take Y
  .exact yp r Y
 .have:=(hIn.take xI i).append yo (by rw[List.length_take,kM,List.length_take,Nat.min_eq_left I,Nat.min_eq_left<|by omega]);intro a r j d ha T;obtain⟨u,hu,hd⟩:=this a r j d ha T;exact⟨u,hu,hd.mono hk⟩
end
def aI.vK{cx:Cx}{st:St}(l:List Nat):aI cx st<|st.cC l:=λ_ _ _ h=>h.cC l
