/-
  One text.
-/
import Derived.Test.YtodofogcincleaaGreatDoorAbM
import Derived.Below
import Derived.Calls
import Derived.Deep.Draws
set_option linter.all false
namespace NQ
open Go
def UpR{α:Type}(d:Nat):Result α->Prop
 | .ok _ w=>d<=w.drawn
 | .halt _ w=>d<=w.drawn
theorem Ey{α:Type}:∀(a:Ask α) (w:World) (d:Nat),d<=w.drawn->d<=(w.ask a).2.drawn
 | .done a,w,d,h=>by simpa [World.ask] using h
 | .ask what range k,w,d,h=>by
  simp only[World.ask];split
  .exact Ey (k 0) w d h
  .refine Ey _ _ d ?_;show d<=w.drawn+1
   omega
theorem Uz(w:World)(c:Sys)(d:Nat)(h:d<=w.drawn):d<=(w.sys c).2.drawn:=by
 unfold World.sys;have:=Ey (Kernel.perform c w.os) w d h;split
 .exact h
 .rename_i r os w' _ e;rw[e]at this;exact this
theorem GP{p:Program}{w w' :World}{at_:Addr}{u:TypeId}{k:Addr}{v:Value}{atomic:Bool}{l:List Addr}(h:w.viewStore p at_ u k v atomic= .ok (w',l)):w'.drawn=w.drawn:=by
 unfold World.viewStore at h;simp only[bind,Except.bind,pure,Except.pure,MonadExcept.throw,throwThe,MonadExceptOf.throw]at h
 repeat' split at h
 all_goals first
  |cases h;done
  |(cases h;rfl)
theorem Hr{p:Program}{w w' :World}{a:Addr}{v:Value}{atomic:Bool}{l:List Addr}(h:w.farStore p a v atomic= .ok (w',l)):w'.drawn=w.drawn:=by
 unfold World.farStore at h;split at h
 .split at h
  .cases h;rename_i e;exact GP e
  .cases h
 .cases h
theorem ij{α:Type}(p:Program)(s:Sem α):∀(w:World) (d:Nat),d<=w.drawn->UpR d (s.run p w):=by
 induction s with
 |pure a=>intro w d h;exact h
 |load m a k ih =>
  intro w d h;simp only[Sem.run];split
  .exact ih _ w d h
  .split
   .exact ih _ w d h
   .exact h
 |store m a v k ih =>
  intro w d h;have key:UpR d (match w.cell? a with
   |some _=>if w.frozen? a then .halt (.unsupported (.unsafePointer "a write to bytes that a string shares")) w else k.run p (w.setCell a v)
   |none=>match w.farStore p a v (m== .atomic)with
    | .ok (w,_)=>k.run p w
    | .error h=> .halt h w):=by
   split
   .split
    .exact h
    .exact ih _ d h
   .split
    .rename_i e;exact ih _ d (by rw[Hr e];exact h)
    .exact h
  cases v <;> first|exact h|(simp only[Sem.run];exact key)
 |new o k ih=>intro w d h;exact ih _ _ d h
 |shape r k ih=>intro w d h;exact ih _ _ d h
 |freeze a n k ih =>
  intro w d h;refine ih _ d ?_;unfold World.freeze;split
  .exact h
  .exact h
 |frozen a k ih=>intro w d h;exact ih _ _ d h
 |getObj r k ih =>
  intro w d h;simp only[Sem.run];split
  .exact h
  .exact ih _ _ d h
  .exact h
 |setObj r o k ih =>
  intro w d h;simp only[Sem.run];split
  .exact h
  .exact ih _ d h
  .exact h
 |choose q k ih =>
  intro w d h;simp only[Sem.run];split
  .exact ih _ w d h
  .refine ih _ _ d ?_;show d<=w.drawn+1
   omega
 |sys c k ih=>intro w d h;exact ih _ _ d (Uz w c d h)
 |program k ih=>intro w d h;exact ih _ _ d h
 |mark m k ih=>intro w d h;exact ih _ d h
 |halt x=>intro w d h;exact h
def UpG(d:Nat):GStep->Prop
 | .go _ w _=>d<=w.drawn
 | .comm _ _ _ _ w _=>d<=w.drawn
 | .spawn _ _ w _=>d<=w.drawn
 | .count _ w _=>d<=w.drawn
 | .timer _ _ w _=>d<=w.drawn
 | .alone _ _ w _=>d<=w.drawn
 | .newcoro _ _ _ w _=>d<=w.drawn
 | .coroswitch _ _ _ w _=>d<=w.drawn
 | .collect _ w _=>d<=w.drawn
 | .watch _ w _=>d<=w.drawn
 | .ended _ _ _=>True
def UpS(d:Nat):Stepped->Prop
 | .next m=>d<=m.world.drawn
 | .ended _ _=>True
theorem UpG.after{d:Nat}{es:Array Event}{s:GStep}(h:UpG d s):UpG d (GStep.after es s):=by
 cases s <;> exact h
theorem mv{α:Type}(p:Program)(s:Sem α)(w:World)(es:Array Event)(d:Nat)(h:d<=w.drawn):UpR d (s.runT p w es).1:=by
 have:(s.runT p w es).1=s.run p w:=by simp
 rw[this];exact ij p s w d h
section
variable (p:Program) (d:Nat)
theorem sj(main:Bool)(fr:Frame)(callers:List Frame)(dying:Option Dying)(v:Value)(w:World)(h:d<=w.drawn):UpG d (doReturn p main fr callers dying v w):=by
 unfold doReturn
 repeat' split
 all_goals first|exact h|exact trivial
theorem Hq(fr:Frame)(m:String)(w:World)(h:d<=w.drawn):UpG d (endThrow fr m w):=h
theorem sV(fr:Frame)(v:Value)(w:World)(h:d<=w.drawn):UpG d (endPrinting p fr v w):=by
 unfold endPrinting;dsimp only;split
 .exact h
 .exact trivial
theorem xY(fr:Frame)(callers:List Frame)(dying:Option Dying)(m:String)(w:World)(h:d<=w.drawn):UpG d (endFatal p fr callers dying m w):=by
 unfold endFatal
 extract_lets chain raw shown
 have:=ij p shown w d h;split
 .rename_i e;rw[e]at this;exact this
 .exact trivial
 .exact trivial
theorem Kw(w:World)(fd:Nat)(text:ByteArray)(o:Outcome):UpG d (endWith w fd text o):=by
 unfold endWith;dsimp only
 repeat' split
 all_goals exact trivial
theorem zN(fr:Frame)(callers:List Frame)(dying:Option Dying)(x:Deferred)(w:World)(h:d<=w.drawn):UpG d (callDeferred p fr callers dying x w):=by
 unfold callDeferred;have:=mv p (invoke x.target x.args) w #[] d h;generalize (invoke x.target x.args).runT p w #[]=r at this;obtain⟨r,es⟩:=r;dsimp only at this ⊢;refine iteInduction (λ_=>trivial) (λ_=>?_);refine UpG.after ?_
 repeat' split
 all_goals first|exact trivial|exact this|exact xY p d _ _ _ _ _ this
theorem OD(main:Bool)(fr:Frame)(callers:List Frame)(dying:Option Dying)(w:World)(h:d<=w.drawn):UpG d (unwind p main fr callers dying w):=by
 unfold unwind;split
 .rename_i block _ ds _;have:=mv p (Instr.takeDeferred block) w #[] d h;generalize (Instr.takeDeferred block).runT p w #[]=r at this;obtain⟨r,es⟩:=r;dsimp only at this ⊢;refine UpG.after ?_;split
  .exact this
  .exact trivial
 .exact zN p d _ _ _ _ _ h
 .split
  .exact trivial
  .rename_i chain _;split
   .exact trivial
   .split
    .exact h
    .split
     .split
      .exact h
      .have:=ij p (reportChain chain false) w d h;split
       .rename_i e;rw[e]at this;exact this
       .exact trivial
       .exact trivial
     .split
      .exact sV p d _ _ _ h
      .exact trivial
  .split
   .exact sj p d _ _ _ _ _ _ h
   .rename_i fn _;have:=mv p (results fn fr.tmps) w #[] d h;generalize (results fn fr.tmps).runT p w #[]=r at this;obtain⟨r,es⟩:=r;dsimp only at this ⊢;refine UpG.after ?_;split
    .exact sj p d _ _ _ _ _ _ this
    .exact trivial
    .exact trivial
theorem Me(fr:Frame)(x:Dying)(f:Fatal)(w:World)(h:d<=w.drawn):UpG d (writeOn p fr x f w):=by
 unfold writeOn
 extract_lets on
 split
 .exact trivial
 .have key:∀s:Sem Unit,UpR d (s.runT p w #[]).1:=λs=>mv p s w #[] d h
  dsimp only;split
  all_goals first|exact trivial|(rename_i e;exact Eq.mp (congrArg (λr=>UpR d r.1) e) (key _))
theorem TM(fr:Frame)(x:Dying)(w:World)(h:d<=w.drawn):UpG d (die p fr x w):=by
 unfold die;split
 .exact Me p d _ _ _ _ h
 .split
  .split
   .exact h
   .exact Kw d _ _ _ _
  .extract_lets x'
   split
   .exact h
   .rename_i s _;have:=ij p (withAddress s) w d h;split
    .rename_i e;rw[e]at this;exact this
    .exact trivial
   .rename_i t recv name _;have:=mv p (invoke (.fn (.method name) #[]) #[.iface t recv]) w #[] d h;generalize (invoke (.fn (.method name) #[]) #[.iface t recv]).runT p w #[]=r at this;obtain⟨r,es⟩:=r;dsimp only at this ⊢;refine UpG.after ?_;split
    .exact this
    .exact this
    .exact trivial
    .exact sV p d _ _ _ this
    .exact trivial
   .exact trivial
theorem PG(fr:Frame)(callers:List Frame)(dying:Option Dying)(g:Nat)(w:World)(h:d<=w.drawn):UpG d (early p fr callers dying g w):=by
 unfold early
 extract_lets refuse notYet
 have hr:UpG d refuse:=trivial;have hn:∀w,d<=w.drawn->UpG d (notYet w):=λw h=>by
  simp only[notYet];split
  .exact h
  .exact trivial
 split
 .exact hn w h
 .split
  .exact hr
  .extract_lets there
   have ht:∀w,d<=w.drawn->UpG d (there w):=λw h=>h
   split
   .exact hn w h
   .split
    .exact hn w h
    .split
     .exact hr
     .exact ht w h
     .exact hr
     .exact hn w h
     .split
      .exact ht w h
      .split
       .exact hn w h
       .have:=ij p (choose (.early g)) w d h;split
        .rename_i e;rw[e]at this;exact hn _ this
        .rename_i e;rw[e]at this;exact ht _ this
        .exact trivial
theorem oh(fr:Frame)(callers:List Frame)(dying:Option Dying)(s:Sem Next)(w:World)(listen:Bool)(h:d<=w.drawn):UpG d (stepG.apply p listen fr callers dying s w):=by
 unfold stepG.apply
 extract_lets go kind
 have:UpR d (if listen=true then s.runT p w #[]else(s.run p w, #[])).1:=by
  split
  .exact mv p s w #[] d h
  .exact ij p s w d h
 generalize (if listen=true then s.runT p w #[]else(s.run p w, #[]))=r at this
 obtain⟨r,es⟩:=r;dsimp only at this ⊢;refine UpG.after ?_
 repeat' split
 all_goals first|exact trivial|exact this|exact xY p d _ _ _ _ _ this|exact PG p d _ _ _ _ _ this
theorem Sv(main:Bool)(fr:Frame)(callers:List Frame)(dying:Option Dying)(w:World)(listen:Bool)(h:d<=w.drawn):UpG d (stepG.exec p main listen fr callers dying w):=by
 unfold stepG.exec
 extract_lets go to lost leave
 have hq:∀fr w,d<=w.drawn->UpG d (go fr w):=λfr w h=>h
 have hj:∀t,UpG d (to t):=λt=>h
 have hp:∀s,UpG d (lost s):=λs=>trivial
 have hh:∀j,UpG d (leave j):=λj=>by
  simp only[leave];split
  .exact iteInduction (λ_=>hq _ _ h) (λ_=>trivial)
  .rename_i l _;have:=mv p (Instr.endRound l j) w #[] d h;generalize (Instr.endRound l j).runT p w #[]=r at this;obtain⟨r,es⟩:=r;dsimp only at this ⊢;refine UpG.after ?_;split
   .exact sj p d _ _ _ _ _ _ this
   .exact trivial
 have helim:∀(o:Option (List Item)) j,UpG d (o.elim (leave j) to):=λo j=>by
  cases o with
  |none=>exact hh j
  |some t=>exact hj t
 clear_value leave to lost go
 split
 .exact hh _
 .exact hh _
 .exact hj _
 .exact hj _
 .exact hj _
 .exact hj _
 .exact hj _
 .split
  .exact hj _
  .exact hp _
 .exact hj _
 .exact hj _
 .exact hj _
 .exact hj _
 .exact helim _ _
 .exact helim _ _
 .rename_i f params assign body k _;have:=mv p (Instr.enterLoop fr.fn fr.tmps params assign body fr.roundOf) w #[] d h;generalize (Instr.enterLoop fr.fn fr.tmps params assign body fr.roundOf).runT p w #[]=r at this;obtain⟨r,es⟩:=r;dsimp only at this ⊢;refine UpG.after ?_;split
  .exact oh p d _ _ _ _ _ _ this
  .exact trivial
 .exact trivial
 .exact oh p d _ _ _ _ _ _ h
 .rename_i l k _;have:=mv p (Instr.endLoop l) w #[] d h;generalize (Instr.endLoop l).runT p w #[]=r at this;obtain⟨r,es⟩:=r;dsimp only at this ⊢;refine UpG.after ?_;split
  .exact hq _ _ this
  .exact hq _ _ this
  .exact trivial
 .exact trivial
 .exact oh p d _ _ _ _ _ _ h
 .rename_i row args _ _;cases Extern.next row with
  |none=>exact hp _
  |some e=>exact oh p d _ _ _ _ _ _ h
 .refine iteInduction (λ_=>hj _) (λ_=>?_);rename_i id ops draw k _ _;have:=ij p (choose (Question.order fr.fn id)) w d h;split
  .rename_i e;rw[e]at this;exact hq _ _ this
  .exact trivial
 .exact hj _
 .refine iteInduction (λ_=>?_) (λ_=>hq _ _ h);unfold stepG.oper;split
  .exact trivial
  .split
   .exact oh p d _ _ _ _ _ _ h
   .exact oh p d _ _ _ _ _ _ h
theorem Rf(main:Bool)(g:Goroutine)(w:World)(listen:Bool)(h:d<=w.drawn):UpG d (stepG p main g w listen):=by
 unfold stepG;dsimp only;split
 .exact TM p d _ _ _ h
 .exact Sv p d _ _ _ _ _ _ h
 .exact OD p d _ _ _ _ _ h
theorem Jq(gs:Array Goroutine)(rest:Rest)(w:World)(h:d<=w.drawn):UpS d (look p gs rest w):=by
 unfold look;split
 .extract_lets
  split;dsimp only;refine iteInduction (λ_=>trivial) (λ_=>?_);split
  .exact trivial
  .have key:∀s:Sem (List (Nat×Deferred)×List (Nat×Deferred)),UpR d (s.run p w):=λs=>ij p s w d h
   split
   .rename_i e;exact(Eq.mp (congrArg (λr=>UpR d r) e) (key _) :)
   .exact trivial
   .exact trivial
 .exact trivial
theorem GU{rest:Rest}{cases:Array CommCase}{w w' :World}(h:waitingAt rest cases w=some w'):w'.drawn=w.drawn:=by
 unfold waitingAt at h;split at h
 .split at h
  .cases h;rfl
  .cases h
 .cases h;rfl
theorem BG(rest:Rest)(gs:Array Goroutine)(i:Nat)(g:Goroutine)(cases:Array CommCase)(ha:Bool)(shape:CommShape)(w:World)(h:d<=w.drawn):UpS d (communicate p rest gs i g cases ha shape w).1:=by
 unfold communicate
 extract_lets put illMade me other ready pick
 have hg:∀g gs w ops,d<=w.drawn->UpS d (put g gs w ops).1:=λg gs w ops h=>h
 clear_value put illMade me other
 refine iteInduction (motive:=λ(x:Stepped×Array MemOp)=>UpS d x.1) (λ_=>trivial) (λ_=>?_);refine iteInduction (motive:=λ(x:Stepped×Array MemOp)=>UpS d x.1) (λ_=>?_) (λ_=>?_)
 .refine iteInduction (motive:=λ(x:Stepped×Array MemOp)=>UpS d x.1) (λ_=>?_) (λ_=>hg _ _ _ _ h);split
  .rename_i e;show d<=_
   rw[GU e];exact h
  .exact trivial
 .have:=ij p pick w d h;split
  .exact trivial
  .rename_i e;rw[e]at this;have this:d<=_:=this
   extract_lets r
   split
   .have:=ij p (runtimePanic (.plain "send on closed channel"):Sem Unit) _ d this;split
    .rename_i e;rw[e]at this;exact hg _ _ _ _ this
    .exact trivial
   .exact hg _ _ _ _ this
   .exact hg _ _ _ _ this
   .extract_lets v buf
    split
    .exact hg _ _ _ _ this
    .have:=λn=>ij p (choose (.extern "which waiting goroutine is the partner" n)) _ d this
     split
     .rename_i e;split;exact hg _ _ _ _ (Eq.mp (congrArg (λr=>UpR d r) e) (this _) :)
     .exact trivial
   .exact hg _ _ _ _ this
   .exact hg _ _ _ _ this
   .exact trivial
theorem PF(w:World)(c:Nat):(drain w c).2.drawn=w.drawn:=by
 unfold drain;split <;> rfl
theorem CU(m:Machine)(k:Nat)(t:Timer)(a b:Nat):(retime m k t a b).2.world.drawn=m.world.drawn:=by
 unfold retime;split;rename_i e;split at e
 .rename_i c _;have:=PF m.world c;rw[e]at this;exact this
 .cases e;rfl
theorem FX{m m' :Machine}{var:Addr}{f:Nat->Timer->Value×Machine}{v:Value}(hf:∀k t,d<=(f k t).2.world.drawn)(h:timerOp.named m var f= .ok (v,m')):d<=m'.world.drawn:=by
 unfold timerOp.named at h;split at h
 .exact Eq.mp (congrArg (λx:Value×Machine=>d<=x.2.world.drawn) (Except.ok.inj h)) (hf _ _)
 .cases h
theorem LO{m m' :Machine}{op:TimerOp}{v:Value}(hd:d<=m.world.drawn)(h:timerOp m op= .ok (v,m')):d<=m'.world.drawn:=by
 unfold timerOp at h;split at h
 .split at h
  .cases h;exact hd
  .split at h
   .split at h
    .cases h
    .cases h;exact hd
   .cases h
 .exact FX d (λk t=>by rw[CU];exact hd) h
 .split at h
  .rename_i m1 hm;refine FX d (λk t=>?_) h;rw[CU];unfold timerOp.opened at hm;split at hm
   .split at hm
    .cases hm;exact hd
    .cases hm
   .cases hm;exact hd
  .cases h
 .cases h;exact hd
theorem QW(m:Machine)(k:Nat)(hd:d<=m.world.drawn):UpS d (serve p m k):=by
 unfold serve;split
 .exact trivial
 .exact hd
 .extract_lets delay next
  split
  .exact trivial
  .exact hd
theorem Ob(m:Machine)(i:Nat)(listen:Bool)(hd:d<=m.world.drawn):UpS d (Go.runT p m i listen).1:=by
 unfold Go.runT
 extract_lets rest world
 split;rename_i g gs _
 extract_lets wake fn pos s ops done
 have hs:UpG d s:=Rf p d _ _ _ _ hd;have hb:∀r,UpS d r->UpS d (done r).1:=λr h=>h
 clear_value s ops done
 split
 .exact hb _ trivial
 .rename_i g cases ha shape w _;have:=BG p d rest gs i g cases ha shape w hs;generalize communicate p rest gs i g cases ha shape w=r at this;exact this
 .exact hb _ hs
 .exact hs
 .exact hb _ (iteInduction (λ_=>trivial) (λ_=>hs))
 .exact hb _ hs
 .exact hb _ (Jq p d _ _ _ hs)
 .exact hb _ hs
 .exact hs
 .refine hb _ ?_;split
  .exact hs
  .have:=Hq d g.frame "coroswitch on exited coro" world hd;split
   .rename_i e;unfold endThrow dieOf at e;cases e;exact hs
   .exact trivial
  .exact trivial
 .refine hb _ ?_;split
  .rename_i e;exact(LO d (m:={world:=_,gs:=gs,rest:=rest}) hs e :)
  .split
   .rename_i e;unfold endThrow dieOf at e;cases e;exact hs
   .exact trivial
  .exact trivial
  .exact trivial
def UpM(d:Nat):Move->Prop
 | .goroutine m _=>d<=m.world.drawn
 | .machine s _=>UpS d s
theorem yF(m:Machine)(hd:d<=m.world.drawn):UpM d (askOn p m):=by
 unfold askOn
 extract_lets mono rs ds pick
 have ho:∀m:Machine,d<=m.world.drawn->UpM d (pick m):=λm hd=>by
  simp only[pick];have:=ij p (choose (.sched rs.length)) m.world d hd;split
  .exact trivial
  .rename_i e;rw[e]at this;refine iteInduction (λ_=>this) (λ_=>?_);have:=ij p (choose (.extern "sched.slice" 65536)) _ d this;split
   .exact trivial
   .rename_i e;rw[e]at this;exact this
 clear_value pick
 have key:∀s:Sem Nat,UpR d (s.run p m.world):=λs=>ij p s m.world d hd
 split
 .exact trivial
 .rename_i k world e;have hw:d<=world.drawn:=(Eq.mp (congrArg (λr=>UpR d r) e) (key _) :)
  extract_lets m
  have hm:d<=m.world.drawn:=hw
  clear_value m
  refine iteInduction (λ_=>QW p d _ _ hm) (λ_=>?_);clear key e
  clear_value rs ds
  cases rs with
  |nil =>
   dsimp only;split
   .exact hm
   .refine iteInduction (λ_=>hm) (λ_=>?_)
    extract_lets msg
    split
    .exact trivial
    .exact trivial
  |cons r rs =>
   dsimp only;split
   .exact ho _ hm
   .rename_i t _;have:=ij p (choose (.extern "clock.wait" (t-mono+1))) world d hw;split
    .exact trivial
    .rename_i e;rw[e]at this;exact ho _ this
    .rename_i e;rw[e]at this;exact this
    .rename_i e;rw[e]at this;exact ho _ this
theorem Ew(m:Machine)(hd:d<=m.world.drawn):UpM d (ask p m):=by
 unfold ask;refine iteInduction (λ_=>?_) (λ_=>yF p d m hd);have:=ij p (choose (.extern "collector.look" 2)) m.world d hd;split
 .exact trivial
 .rename_i e;rw[e]at this;have:=Jq p d m.gs m.rest _ this;split
  .rename_i e;rw[e]at this;exact yF p d _ this
  .exact this
 .rename_i e;rw[e]at this;exact yF p d _ this
theorem Tb(m:Machine)(hd:d<=m.world.drawn):UpM d (move p m):=by
 unfold move;split
 .exact iteInduction (λ_=>hd) (λ_=>trivial)
 .split
  .exact iteInduction (λ_=>hd) (λ_=>Ew p d _ hd)
  .exact Ew p d _ hd
theorem Tt(m:Machine)(hd:d<=m.world.drawn):UpS d (step p m):=by
 unfold step stepT;have:=Tb p d m hd;split
 .rename_i e;rw[e]at this;exact Ob p d _ _ _ this
 .rename_i e;rw[e]at this;exact this
theorem JH:∀(n:Nat) (m:Machine),d<=m.world.drawn->UpS d (runN p n m)
 |0,m,h=>h
 |n+1,m,h=>by
  have:=Tt p d m h;unfold runN;split
  .rename_i e;rw[e]at this;exact JH n _ this
  .exact this
end
theorem Pr{P:Program}{f:FuncId}{args:Array Value}{w:World}{R:Ending->World->Prop}(h:Calls P f args w R):Calls P f args w λe w' =>R e w' /\ ∀v,e= .returned v->w.drawn<=w'.drawn:=by
 intro cs;obtain⟨e,w',fr,hr,hc,hf,hl⟩:=h cs;refine⟨e,w',fr,⟨hr,λv hv=>?_⟩,hc,hf,hl⟩;subst hv;obtain⟨n,hn⟩:Steps P _ _:=hc;have:=JH P w.drawn n _ (show w.drawn<=(lone (Frame.enter P f args .normal) cs w).world.drawn from Nat.le_refl _);rw[hn]at this;exact this
theorem Hk{w w' :World}(h:Go.RowKit.Below w.heap.size w w')(hd:w.drawn<=w'.drawn):∃q hB,w' ={(w.drewN q)with heap:=(w.drewN q).heap++hB }:=by
 refine⟨w'.drawn-w.drawn,w'.heap.extract w.heap.size w'.heap.size,?_⟩;obtain⟨hz,hA,hy,hC,hx⟩:=w';have h1:=h.os;have h2:=h.tape;have h3:=h.output;have h4:=h.size;have h5:=h.block;simp only at h1 h2 h3 h4 h5 hd;subst h1 h2 h3;simp only[World.drewN]
 congr 1
 .apply Array.ext_getElem?;intro i;rw[Array.getElem?_append];split
  .rename_i hi;exact h5 i hi
  .rename_i hi;rw[Array.getElem?_extract];split
   .congr 1;omega
   .rw[Array.getElem?_eq_none (by omega)]
 .omega
end NQ
