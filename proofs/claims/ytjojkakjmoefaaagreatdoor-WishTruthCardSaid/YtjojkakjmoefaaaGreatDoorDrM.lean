/-
  One text.
-/
import Derived.Test.YtjojkakjmoefaaaGreatDoorAbM
import Derived.Below
import Derived.Calls
import Derived.Deep.Draws
set_option linter.all false

namespace NQ
open Go
def UpR{α:Type}(d:Nat):Result α->Prop
 | .ok _ w=>d<=w.drawn
 | .halt _ w=>d<=w.drawn
def Jp{α:Type}:∀(a:Ask α) (w:World) (d:Nat),d<=w.drawn->d<=(w.ask a).2.drawn
 | .done a,w,d,h=>by simpa [World.ask] using h
 | .ask j range k,w,d,h=>by
  simp only[World.ask];split
  .exact Jp (k 0) w d h
  .refine Jp _ _ d ?_;show d<=w.drawn+1
   omega
def abL(w:World)(c:Sys)(d:Nat)(h:d<=w.drawn):d<=(w.sys c).2.drawn:=by
 unfold World.sys;have:=Jp (Kernel.perform c w.os) w d h;split
 .exact h
 .rename_i r os w' _ e;rw[e]at this;exact this
def LQ{p:Program}{w w' :World}{at_:Addr}{u:TypeId}{k:Addr}{v:Value}{j:Bool}{l:List Addr}(h:w.viewStore p at_ u k v j= .ok (w',l)):w'.drawn=w.drawn:=by
 unfold World.viewStore at h;simp only[bind,Except.bind,pure,Except.pure,MonadExcept.throw,throwThe,MonadExceptOf.throw]at h
 repeat' split at h
 all_goals first
  |cases h;done
  |(cases h;rfl)
def Nu{p:Program}{w w' :World}{a:Addr}{v:Value}{j:Bool}{l:List Addr}(h:w.farStore p a v j= .ok (w',l)):w'.drawn=w.drawn:=by
 unfold World.farStore at h;split at h
 .split at h
  .cases h;rename_i e;exact LQ e
  .cases h
 .cases h
def jm{α:Type}(p:Program)(s:Sem α):∀(w:World) (d:Nat),d<=w.drawn->UpR d (s.run p w):=by
 induction s with
 |pure a=>intro w d h;exact h
 |load m a k j =>
  intro w d h;simp only[Sem.run];split
  .exact j _ w d h
  .split
   .exact j _ w d h
   .exact h
 |store m a v k j =>
  intro w d h;have key:UpR d (match w.cell? a with
   |some _=>if w.frozen? a then .halt (.unsupported<|.unsafePointer "a write to bytes that a string shares") w else k.run p<|w.setCell a v
   |none=>match w.farStore p a v (m== .atomic)with
    | .ok (w,_)=>k.run p w
    | .error h=> .halt h w):=by
   split
   .split
    .exact h
    .exact j _ d h
   .split
    .rename_i e;exact j _ d (by rw[Nu e];exact h)
    .exact h
  cases v<;>first|exact h|(simp only[Sem.run];exact key)
 |new o k j=>intro w d h;exact j _ _ d h
 |shape r k j=>intro w d h;exact j _ _ d h
 |freeze a n k j =>
  intro w d h;refine j _ d ?_;unfold World.freeze;split
  .exact h
  .exact h
 |frozen a k j=>intro w d h;exact j _ _ d h
 |getObj r k j =>
  intro w d h;simp only[Sem.run];split
  .exact h
  .exact j _ _ d h
  .exact h
 |setObj r o k j =>
  intro w d h;simp only[Sem.run];split
  .exact h
  .exact j _ d h
  .exact h
 |choose q k j =>
  intro w d h;simp only[Sem.run];split
  .exact j _ w d h
  .refine j _ _ d ?_;show d<=w.drawn+1
   omega
 |sys c k j=>intro w d h;exact j _ _ d<|abL w c d h
 |program k j=>intro w d h;exact j _ _ d h
 |mark m k j=>intro w d h;exact j _ d h
 |halt x=>intro w d h;exact h
def UpG(d:Nat):GStep->Prop
 | .go _ w _=>d<=w.drawn
 | .comm _ _ _ _ w _=>d<=w.drawn
 | .spawn _ _ w _=>d<=w.drawn
 | .count _ w _=>d<=w.drawn
 | .timer _ _ w _=>d<=w.drawn
 | .alone _ _ w _=>d<=w.drawn
 | .newcoro _ _ _ w _=>d<=w.drawn
 | .coroswitch _ _ _ w _=>d<=w.drawn
 | .collect _ w _=>d<=w.drawn
 | .watch _ w _=>d<=w.drawn
 | .ended _ _ _=>True
def UpS(d:Nat):Stepped->Prop
 | .next m=>d<=m.world.drawn
 | .ended _ _=>True
def UpG.after{d:Nat}{es:Array Event}{s:GStep}(h:UpG d s):UpG d<|GStep.after es s:=by
 cases s<;>exact h
def ou{α:Type}(p:Program)(s:Sem α)(w:World)(es:Array Event)(d:Nat)(h:d<=w.drawn):UpR d (s.runT p w es).1:=by
 have:(s.runT p w es).1=s.run p w:=by simp
 rw[this];exact jm p s w d h
section
variable (p:Program) (d:Nat)
def vG(G:Bool)(H:Frame)(j:List Frame)(D:Option Dying)(v:Value)(w:World)(h:d<=w.drawn):UpG d<|doReturn p G H j D v w:=by
 unfold doReturn
 repeat' split
 all_goals first|exact h|exact trivial
def Nt(j:Frame)(m:String)(w:World)(h:d<=w.drawn):UpG d<|endThrow j m w:=h
def wo(j:Frame)(v:Value)(w:World)(h:d<=w.drawn):UpG d<|endPrinting p j v w:=by
 unfold endPrinting;dsimp only;split
 .exact h
 .exact trivial
def Br(G:Frame)(j:List Frame)(D:Option Dying)(m:String)(w:World)(h:d<=w.drawn):UpG d<|endFatal p G j D m w:=by
 unfold endFatal
 extract_lets chain raw shown
 have:=jm p shown w d h;split
 .rename_i e;rw[e]at this;exact this
 .exact trivial
 .exact trivial
def QE(w:World)(j:Nat)(text:ByteArray)(o:Outcome):UpG d<|endWith w j text o:=by
 unfold endWith;dsimp only
 repeat' split
 all_goals exact trivial
def Df(G:Frame)(j:List Frame)(D:Option Dying)(x:Deferred)(w:World)(h:d<=w.drawn):UpG d<|callDeferred p G j D x w:=by
 unfold callDeferred;have:=ou p (invoke x.target x.args) w #[] d h;generalize (invoke x.target x.args).runT p w #[]=r at this;obtain⟨r,es⟩:=r;dsimp only at this ⊢;refine iteInduction (λ_=>trivial) λ_=>?_;refine UpG.after ?_
 repeat' split
 all_goals first|exact trivial|exact this|exact Br p d _ _ _ _ _ this
def Vn(H:Bool)(I:Frame)(j:List Frame)(G:Option Dying)(w:World)(h:d<=w.drawn):UpG d<|unwind p H I j G w:=by
 unfold unwind;split
 .rename_i block _ ds _;have:=ou p (Instr.takeDeferred block) w #[] d h;generalize (Instr.takeDeferred block).runT p w #[]=r at this;obtain⟨r,es⟩:=r;dsimp only at this ⊢;refine UpG.after ?_;split
  .exact this
  .exact trivial
 .exact Df p d _ _ _ _ _ h
 .split
  .exact trivial
  .rename_i D _;split
   .exact trivial
   .split
    .exact h
    .split
     .split
      .exact h
      .have:=jm p (reportChain D false) w d h;split
       .rename_i e;rw[e]at this;exact this
       .exact trivial
       .exact trivial
     .split
      .exact wo p d _ _ _ h
      .exact trivial
  .split
   .exact vG p d _ _ _ _ _ _ h
   .rename_i fn _;have:=ou p (results fn I.tmps) w #[] d h;generalize (results fn I.tmps).runT p w #[]=r at this;obtain⟨r,es⟩:=r;dsimp only at this ⊢;refine UpG.after ?_;split
    .exact vG p d _ _ _ _ _ _ this
    .exact trivial
    .exact trivial
def SC(j:Frame)(x:Dying)(f:Fatal)(w:World)(h:d<=w.drawn):UpG d<|writeOn p j x f w:=by
 unfold writeOn
 extract_lets on
 split
 .exact trivial
 .have key:∀s:Sem Unit,UpR d (s.runT p w #[]).1:=λs=>ou p s w #[] d h
  dsimp only;split
  all_goals first|exact trivial|(rename_i e;exact Eq.mp (congrArg (λr=>UpR d r.1) e)<|key _)
def aa3(D:Frame)(x:Dying)(w:World)(h:d<=w.drawn):UpG d<|die p D x w:=by
 unfold die;split
 .exact SC p d _ _ _ _ h
 .split
  .split
   .exact h
   .exact QE d _ _ _ _
  .extract_lets x'
   split
   .exact h
   .rename_i s _;have:=jm p (withAddress s) w d h;split
    .rename_i e;rw[e]at this;exact this
    .exact trivial
   .rename_i t j name _;have:=ou p (invoke (.fn (.method name) #[]) #[.iface t j]) w #[] d h;generalize (invoke (.fn (.method name) #[]) #[.iface t j]).runT p w #[]=r at this;obtain⟨r,es⟩:=r;dsimp only at this ⊢;refine UpG.after ?_;split
    .exact this
    .exact this
    .exact trivial
    .exact wo p d _ _ _ this
    .exact trivial
   .exact trivial
def WA(J:Frame)(j:List Frame)(D:Option Dying)(g:Nat)(w:World)(h:d<=w.drawn):UpG d<|early p J j D g w:=by
 unfold early
 extract_lets refuse notYet
 have H:UpG d refuse:=trivial;have G:∀w,d<=w.drawn->UpG d (notYet w):=λw h=>by
  simp only[notYet];split
  .exact h
  .exact trivial
 split
 .exact G w h
 .split
  .exact H
  .extract_lets there
   have I:∀w,d<=w.drawn->UpG d (there w):=λw h=>h
   split
   .exact G w h
   .split
    .exact G w h
    .split
     .exact H
     .exact I w h
     .exact H
     .exact G w h
     .split
      .exact I w h
      .split
       .exact G w h
       .have:=jm p (choose<|.early g) w d h;split
        .rename_i e;rw[e]at this;exact G _ this
        .rename_i e;rw[e]at this;exact I _ this
        .exact trivial
def qG(H:Frame)(D:List Frame)(G:Option Dying)(s:Sem Next)(w:World)(j:Bool)(h:d<=w.drawn):UpG d<|stepG.apply p j H D G s w:=by
 unfold stepG.apply
 extract_lets go kind
 have:UpR d (if j=true then s.runT p w #[]else(s.run p w, #[])).1:=by
  split
  .exact ou p s w #[] d h
  .exact jm p s w d h
 generalize (if j=true then s.runT p w #[]else(s.run p w, #[]))=r at this
 obtain⟨r,es⟩:=r;dsimp only at this ⊢;refine UpG.after ?_
 repeat' split
 all_goals first|exact trivial|exact this|exact Br p d _ _ _ _ _ this|exact WA p d _ _ _ _ _ this
def ZF(Y:Bool)(K:Frame)(J:List Frame)(X:Option Dying)(w:World)(V:Bool)(h:d<=w.drawn):UpG d<|stepG.exec p Y V K J X w:=by
 unfold stepG.exec
 extract_lets go to lost leave
 have T:∀K w,d<=w.drawn->UpG d (go K w):=λK w h=>h
 have D:∀t,UpG d<|to t:=λt=>h
 have U:∀s,UpG d<|lost s:=λs=>trivial
 have G:∀j,UpG d<|leave j:=λj=>by
  simp only[leave];split
  .exact iteInduction (λ_=>T _ _ h) λ_=>trivial
  .rename_i l _;have:=ou p (Instr.endRound l j) w #[] d h;generalize (Instr.endRound l j).runT p w #[]=r at this;obtain⟨r,es⟩:=r;dsimp only at this ⊢;refine UpG.after ?_;split
   .exact vG p d _ _ _ _ _ _ this
   .exact trivial
 have N:∀(o:Option<|List Item) j,UpG d<|o.elim (leave j) to:=λo j=>by
  cases o with
  |none=>exact G j
  |some t=>exact D t
 clear_value leave to lost go
 split
 .exact G _
 .exact G _
 .exact D _
 .exact D _
 .exact D _
 .exact D _
 .exact D _
 .split
  .exact D _
  .exact U _
 .exact D _
 .exact D _
 .exact D _
 .exact D _
 .exact N _ _
 .exact N _ _
 .rename_i f I H W k _;have:=ou p (Instr.enterLoop K.fn K.tmps I H W K.roundOf) w #[] d h;generalize (Instr.enterLoop K.fn K.tmps I H W K.roundOf).runT p w #[]=r at this;obtain⟨r,es⟩:=r;dsimp only at this ⊢;refine UpG.after ?_;split
  .exact qG p d _ _ _ _ _ _ this
  .exact trivial
 .exact trivial
 .exact qG p d _ _ _ _ _ _ h
 .rename_i l k _;have:=ou p (Instr.endLoop l) w #[] d h;generalize (Instr.endLoop l).runT p w #[]=r at this;obtain⟨r,es⟩:=r;dsimp only at this ⊢;refine UpG.after ?_;split
  .exact T _ _ this
  .exact T _ _ this
  .exact trivial
 .exact trivial
 .exact qG p d _ _ _ _ _ _ h
 .rename_i row args _ _;cases Extern.next row with
  |none=>exact U _
  |some e=>exact qG p d _ _ _ _ _ _ h
 .refine iteInduction (λ_=>D _) λ_=>?_;rename_i id ops Z k _ _;have:=jm p (choose<|Question.order K.fn id) w d h;split
  .rename_i e;rw[e]at this;exact T _ _ this
  .exact trivial
 .exact D _
 .refine iteInduction (λ_=>?_) λ_=>T _ _ h;unfold stepG.oper;split
  .exact trivial
  .split
   .exact qG p d _ _ _ _ _ _ h
   .exact qG p d _ _ _ _ _ _ h
def Yi(D:Bool)(g:Goroutine)(w:World)(j:Bool)(h:d<=w.drawn):UpG d<|stepG p D g w j:=by
 unfold stepG;dsimp only;split
 .exact aa3 p d _ _ _ h
 .exact ZF p d _ _ _ _ _ _ h
 .exact Vn p d _ _ _ _ _ h
def Pp(D:Array Goroutine)(j:Rest)(w:World)(h:d<=w.drawn):UpS d<|look p D j w:=by
 unfold look;split
 .extract_lets
  split;dsimp only;refine iteInduction (λ_=>trivial) λ_=>?_;split
  .exact trivial
  .have key:∀s:Sem (List (Nat×Deferred)×List (Nat×Deferred)),UpR d<|s.run p w:=λs=>jm p s w d h
   split
   .rename_i e;exact(Eq.mp (congrArg (λr=>UpR d r) e) (key _) :)
   .exact trivial
   .exact trivial
 .exact trivial
def LU{j:Rest}{cases:Array CommCase}{w w' :World}(h:waitingAt j cases w=some w'):w'.drawn=w.drawn:=by
 unfold waitingAt at h;split at h
 .split at h
  .cases h;rfl
  .cases h
 .cases h;rfl
def Fk(G:Rest)(H:Array Goroutine)(i:Nat)(g:Goroutine)(cases:Array CommCase)(D:Bool)(shape:CommShape)(w:World)(h:d<=w.drawn):UpS d (communicate p G H i g cases D shape w).1:=by
 unfold communicate
 extract_lets put illMade me other ready pick
 have j:∀g H w ops,d<=w.drawn->UpS d (put g H w ops).1:=λg H w ops h=>h
 clear_value put illMade me other
 refine iteInduction (motive:=λ(x:Stepped×Array MemOp)=>UpS d x.1) (λ_=>trivial) λ_=>?_;refine iteInduction (motive:=λ(x:Stepped×Array MemOp)=>UpS d x.1) (λ_=>?_) λ_=>?_
 .refine iteInduction (motive:=λ(x:Stepped×Array MemOp)=>UpS d x.1) (λ_=>?_) λ_=>j _ _ _ _ h;split
  .rename_i e;show d<=_
   rw[LU e];exact h
  .exact trivial
 .have:=jm p pick w d h;split
  .exact trivial
  .rename_i e;rw[e]at this;have this:d<=_:=this
   extract_lets r
   split
   .have:=jm p (runtimePanic (.plain "send on closed channel"):Sem Unit) _ d this;split
    .rename_i e;rw[e]at this;exact j _ _ _ _ this
    .exact trivial
   .exact j _ _ _ _ this
   .exact j _ _ _ _ this
   .extract_lets v buf
    split
    .exact j _ _ _ _ this
    .have:=λn=>jm p (choose<|.extern "which waiting goroutine is the partner" n) _ d this
     split
     .rename_i e;split;exact j _ _ _ _ (Eq.mp (congrArg (λr=>UpR d r) e) (this _) :)
     .exact trivial
   .exact j _ _ _ _ this
   .exact j _ _ _ _ this
   .exact trivial
def Wx(w:World)(c:Nat):(drain w c).2.drawn=w.drawn:=by
 unfold drain;split<;>rfl
def Hg(m:Machine)(k:Nat)(t:Timer)(a b:Nat):(retime m k t a b).2.world.drawn=m.world.drawn:=by
 unfold retime;split;rename_i e;split at e
 .rename_i c _;have:=Wx m.world c;rw[e]at this;exact this
 .cases e;rfl
def KO{m D :Machine}{j:Addr}{f:Nat->Timer->Value×Machine}{v:Value}(G:∀k t,d<=(f k t).2.world.drawn)(h:timerOp.named m j f= .ok (v,D)):d<=D.world.drawn:=by
 unfold timerOp.named at h;split at h
 .exact Eq.mp (congrArg (λx:Value×Machine=>d<=x.2.world.drawn)<|Except.ok.inj h)<|G _ _
 .cases h
def Sn{m G :Machine}{op:TimerOp}{v:Value}(j:d<=m.world.drawn)(h:timerOp m op= .ok (v,G)):d<=G.world.drawn:=by
 unfold timerOp at h;split at h
 .split at h
  .cases h;exact j
  .split at h
   .split at h
    .cases h
    .cases h;exact j
   .cases h
 .exact KO d (λk t=>by rw[Hg];exact j) h
 .split at h
  .rename_i H D;refine KO d (λk t=>?_) h;rw[Hg];unfold timerOp.opened at D;split at D
   .split at D
    .cases D;exact j
    .cases D
   .cases D;exact j
  .cases h
 .cases h;exact j
def Ya(m:Machine)(k:Nat)(j:d<=m.world.drawn):UpS d<|serve p m k:=by
 unfold serve;split
 .exact trivial
 .exact j
 .extract_lets delay next
  split
  .exact trivial
  .exact j
def UF(m:Machine)(i:Nat)(H:Bool)(I:d<=m.world.drawn):UpS d (Go.runT p m i H).1:=by
 unfold Go.runT
 extract_lets rest world
 split;rename_i g gs _
 extract_lets wake fn pos s ops done
 have G:UpG d s:=Yi p d _ _ _ _ I;have j:∀r,UpS d r->UpS d (done r).1:=λr h=>h
 clear_value s ops done
 split
 .exact j _ trivial
 .rename_i g cases D shape w _;have:=Fk p d rest gs i g cases D shape w G;generalize communicate p rest gs i g cases D shape w=r at this;exact this
 .exact j _ G
 .exact G
 .exact j _ (iteInduction (λ_=>trivial) λ_=>G)
 .exact j _ G
 .exact j _<|Pp p d _ _ _ G
 .exact j _ G
 .exact G
 .refine j _ ?_;split
  .exact G
  .have:=Nt d g.frame "coroswitch on exited coro" world I;split
   .rename_i e;unfold endThrow dieOf at e;cases e;exact G
   .exact trivial
  .exact trivial
 .refine j _ ?_;split
  .rename_i e;exact(Sn d (m:={world:=_,gs:=gs,rest:=rest}) G e :)
  .split
   .rename_i e;unfold endThrow dieOf at e;cases e;exact G
   .exact trivial
  .exact trivial
  .exact trivial
def UpM(d:Nat):Move->Prop
 | .goroutine m _=>d<=m.world.drawn
 | .machine s _=>UpS d s
def Cd(m:Machine)(H:d<=m.world.drawn):UpM d<|askOn p m:=by
 unfold askOn
 extract_lets mono G ds pick
 have j:∀m:Machine,d<=m.world.drawn->UpM d (pick m):=λm H=>by
  simp only[pick];have:=jm p (choose<|.sched G.length) m.world d H;split
  .exact trivial
  .rename_i e;rw[e]at this;refine iteInduction (λ_=>this) λ_=>?_;have:=jm p (choose<|.extern "sched.slice" 65536) _ d this;split
   .exact trivial
   .rename_i e;rw[e]at this;exact this
 clear_value pick
 have key:∀s:Sem Nat,UpR d<|s.run p m.world:=λs=>jm p s m.world d H
 split
 .exact trivial
 .rename_i k world e;have I:d<=world.drawn:=(Eq.mp (congrArg (λr=>UpR d r) e) (key _) :)
  extract_lets m
  have D:d<=m.world.drawn:=I
  clear_value m
  refine iteInduction (λ_=>Ya p d _ _ D) λ_=>?_;clear key e
  clear_value G ds
  cases G with
  |nil =>
   dsimp only;split
   .exact D
   .refine iteInduction (λ_=>D) (λ_=>?_)
    extract_lets msg
    split
    .exact trivial
    .exact trivial
  |cons r G =>
   dsimp only;split
   .exact j _ D
   .rename_i t _;have:=jm p (choose<|.extern "clock.wait"<|t-mono+1) world d I;split
    .exact trivial
    .rename_i e;rw[e]at this;exact j _ this
    .rename_i e;rw[e]at this;exact this
    .rename_i e;rw[e]at this;exact j _ this
def Jo(m:Machine)(j:d<=m.world.drawn):UpM d<|ask p m:=by
 unfold ask;refine iteInduction (λ_=>?_) λ_=>Cd p d m j;have:=jm p (choose<|.extern "collector.look" 2) m.world d j;split
 .exact trivial
 .rename_i e;rw[e]at this;have:=Pp p d m.gs m.rest _ this;split
  .rename_i e;rw[e]at this;exact Cd p d _ this
  .exact this
 .rename_i e;rw[e]at this;exact Cd p d _ this
def aap(m:Machine)(j:d<=m.world.drawn):UpM d<|move p m:=by
 unfold move;split
 .exact iteInduction (λ_=>j) λ_=>trivial
 .split
  .exact iteInduction (λ_=>j) λ_=>Jo p d _ j
  .exact Jo p d _ j
def aaK(m:Machine)(j:d<=m.world.drawn):UpS d<|step p m:=by
 unfold step stepT;have:=aap p d m j;split
 .rename_i e;rw[e]at this;exact UF p d _ _ _ this
 .rename_i e;rw[e]at this;exact this
def PH:∀(n:Nat) (m:Machine),d<=m.world.drawn->UpS d (runN p n m)
 |0,m,h=>h
 |n+1,m,h=>by
  have:=aaK p d m h;unfold runN;split
  .rename_i e;rw[e]at this;exact PH n _ this
  .exact this
end
def Wd{P:Program}{f:FuncId}{args:Array Value}{w:World}{R:Ending->World->Prop}(h:Calls P f args w R):Calls P f args w λe w' =>R e w' /\ ∀v,e= .returned v->w.drawn<=w'.drawn:=by
 intro cs;obtain⟨e,w',D,J,j,G,H⟩:=h cs;refine⟨e,w',D,⟨J,λv K=>?_⟩,j,G,H⟩;subst K;obtain⟨n,I⟩:Steps P _ _:=j;have:=PH P w.drawn n _ (show w.drawn<=(lone (Frame.enter P f args .normal) cs w).world.drawn from Nat.le_refl _);rw[I]at this;exact this
def Nl{w w' :World}(h:Go.RowKit.Below w.heap.size w w')(V:w.drawn<=w'.drawn):∃q H,w' ={(w.drewN q)with heap:=(w.drewN q).heap++H }:=by
 refine⟨w'.drawn-w.drawn,w'.heap.extract w.heap.size w'.heap.size,?_⟩;obtain⟨G,I,D,W,j⟩:=w';have h1:=h.os;have J:=h.tape;have K:=h.output;have U:=h.size;have N:=h.block;simp only at h1 J K U N V;subst h1 J K;simp only[World.drewN]
 congr 1
 .apply Array.ext_getElem?;intro i;rw[Array.getElem?_append];split
  .rename_i T;exact N i T
  .rename_i T;rw[Array.getElem?_extract];split
   .congr 1;omega
   .rw[Array.getElem?_eq_none<|by omega]
 .omega
