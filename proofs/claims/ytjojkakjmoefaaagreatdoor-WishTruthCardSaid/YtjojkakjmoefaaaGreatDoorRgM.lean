/-
  One text.
-/
import Derived.Test.YtjojkakjmoefaaaGreatDoorAbM
import Derived.RangeFuncNested
import Derived.RangeFuncBound
import Derived.RangeFuncCalls
import Derived.RangeFuncLeaves
import Derived.Shelf.Abstract
import Derived.WalkKit
import Derived.OwnWalkIn
import Derived.TacticsInMore
import Derived.LoopNIn
import Derived.LoopIn
set_option linter.all false

namespace Go.Proofs.YtjojkakjmoefaaaGreatDoor
open Go.RowKit Go.Shelf
structure dY(d:Nat)(A B:World):Prop where
 os:B.os=A.os
 tape:B.tape=A.tape
 output:B.output=A.output
 size:A.heap.size<=B.heap.size
 block:∀k,k<A.heap.size->k≠d->k≠d+1->B.heap[k]? =A.heap[k]?
def dY.refl(d:Nat)(A:World):dY d A A:=⟨rfl,rfl,rfl,Nat.le_refl _,λ_ _ _ _=>rfl⟩
variable {d:Nat}{A B:World}
def dY.below{j:Nat}(h:dY d A B)(h0:j<=d)(D:d<=A.heap.size):Below j A B :=
 ⟨h.os,h.tape,h.output,h.size,λk G=>h.block k (by omega) (by omega)<|by omega⟩
def dY.xS(h:Below A.heap.size A B):dY d A B :=
 ⟨h.os,h.tape,h.output,h.size,λk j _ _=>h.block k j⟩
def dY.putObj{l:Nat}(A:World)(o:Obj)(h:l=d\/l=d+1):dY d A<|A.putObj l o:=by
 refine⟨rfl,rfl,rfl,by simp[World.putObj],λk _ h1 j=>?_⟩;exact World.putObj_heap_other (by omega)
def dY.aaZ(A:World)(o p:Obj):dY A.heap.size A ((A.alloc o).alloc p) :=
 dY.xS (((Below.refl _ A).alloc (Nat.le_refl _) o).alloc (by simp) p)
def PX{α:Type}(P:Program)(gf:Nat)(first lb:Array Value)(H:α->Array Value)(xs:List α)(N:World->World->Prop)(T:Nat)(W:World):Prop :=
 ∀(l:Nat) (J K:List α->World->Prop),(∀j A B,J j A->N A B->J j B)->(∀j A B,K j A->N A B->K j B) ->
  (∀j x I D,xs=j++x::I->J j D->YieldAt Fence.wide 1 P l (H x) D λe G =>
   (e= .returned (.bool true)/\J (j++[x]) G /\Below T D G)\/(e= .returned (.bool false)/\K (j++[x]) G)) ->
  ∀D,Below T W D->J [] D->CallsIn Fence.wide 2 P gf (first++ #[.func (.yield l) #[] #[]]++lb) D λe G =>(∃v,e= .returned v)/\(J xs G \/ ∃j,j <+: xs/\K j G)
def fK(d:Nat)(A B:World):Prop:=B.heap[d]? =A.heap[d]? /\B.heap[d+1]? =A.heap[d+1]?
def fK.refl(d:Nat)(A:World):fK d A A:=⟨rfl,rfl⟩
def fK.xS{j:Nat}(h:Below j A B)(D:d+2<=j):fK d A B:=⟨h.block d<|by omega,h.block (d+1)<|by omega⟩
def fK.setCell(h:fK d A B){p:Addr}(hp:p.block<d\/d+1<p.block)(v:Value):fK d A (B.setCell p v) :=
 ⟨(Below.heap_setCell B p v d<|by omega).trans h.1,(Below.heap_setCell B p v (d+1)<|by omega).trans h.2⟩
def fK.set{b:Nat}(h:fK d A B)(j:b<d\/d+1<b)(v:Value):fK d A<|B.setCell ⟨b,0,none⟩ v:=h.setCell j v
def ach{α:Type}(d G:Nat)(I:List α->World->Prop)(D:Code->List α->World->Prop)(ys:List α)(W:World):Exit->Act->World->Prop
 | .normal,_,j =>fK d W j /\Below G W j /\I ys j
 | .ret,_,j =>fK d W j /\D .ret ys j
 | .exit id,_,j =>fK d W j /\D (.exit id) ys j
 | .goto t,_,j =>fK d W j /\D (.goto t) ys j
 | .panic _,_,_=>False
 | .outgrown,_,_=>False
def rF{P:Program}{α:Type}{g:Operand}{ps:Array Tmp}{assign body:Code}{Q:Exit->Act->World->Prop}{a:Act}{w:World}
 {gf:Nat} {first lb:Array Value} (hg:a.eval g= .func (.func gf) first lb) (eg:∀args w,(callFunc gf args).run P w= .ok (.enter gf args) w)
 {hf:α->Array Value} {xs:List α} {Ab:World->World->Prop} {n₀:Nat} (hL:PX P gf first lb hf xs Ab n₀ w) (hG:n₀<=w.heap.size)
 (hM:∀A B,Ab A B->Below A.heap.size A B) (hY:∀x,(hf x).size=ps.size)
 (I:List α->World->Prop) (Ix:Code->List α->World->Prop) (hI:∀pre A B,I pre A->w.heap.size+2<=A.heap.size->dY w.heap.size A B->I pre B) (hv:∀c pre A B,Ix c pre A->w.heap.size+2<=A.heap.size->dY w.heap.size A B->Ix c pre B)
 (h0:∀W,dY w.heap.size w W->I [] W) (a₁:α->Act)
 (hh:∀(l:Nat) (x:α) (W:World) (K:Act->World->Prop),K (a₁ x) W ->
  assign.wpIn (Fence.wide.inRound l) 1 P (Exit.then K λ_ _ _=>False) {tmps:=(ps.zip<|hf x).foldl (λt (p,v)=>t.setIfInBounds p v) a.tmps,defers:=[]} W)
 (hx:∀(l:Nat) (pre:List α) (x:α) (post:List α) (W:World),xs=pre++x::post->w.heap.size+2<=W.heap.size->I pre W->body.wpIn (Fence.wide.inRound l) 1 P (ach w.heap.size n₀ I Ix (pre++[x]) W) (a₁ x) W)
 (hA:∀(W:World),w.heap.size+2<=W.heap.size->I xs W->W.heap[w.heap.size]? =some (.deferred<|some [])->Q .normal {a with defers:={target:= .collected w.heap.size,args:= #[]}::a.defers} W)
 (hC:∀(c:Code) (pre:List α) (W:World),pre <+: xs->w.heap.size+2<=W.heap.size->Ix c pre W->W.heap[w.heap.size]? =some (.deferred<|some [])->c.wpIn Fence.wide 3 P Q {a with defers:={target:= .collected w.heap.size,args:= #[]}::a.defers} W) :
 (Code.rangeFunc g ps assign body).wpIn Fence.wide 3 P Q a w:=by
 refine wpIn_rangeFunc ?_;intro fn hU;obtain⟨rec,ha⟩:∃rec:LoopState->Option Code->Loop,rec=λst pe=>{state:=st,pending:=pe,fn,tmps:=a.tmps,params:=ps,assign,body,defers:=w.heap.size}:=⟨_,rfl⟩
 obtain⟨W1,hD⟩:∃W1,(w.alloc<|.deferred<|some []).alloc (.loop<|rec .ready none)=W1:=⟨_,rfl⟩
 have hS:W1.heap[w.heap.size+1]? =some (.loop<|rec .ready none):=by
  rw[<- hD];have:=World.alloc_heap_new (w.alloc<|.deferred<|some [])<|.loop<|rec .ready none;rwa [World.size_alloc]at this
 have hR:W1.heap[w.heap.size]? =some (.deferred<|some []):=by
  rw[<- hD];exact(Below.heap_alloc _ _ _<|by simp).trans<|World.alloc_heap_new w _
 have hB:dY w.heap.size w W1:=by rw[<- hD];exact dY.aaZ w _ _
 have hT:Below n₀ w W1:=hB.below hG<|Nat.le_refl _;refine⟨w.heap.size+1,[{target:= .collected w.heap.size,args:= #[]}],W1,{target:= .fn (.func gf) lb,args:=first++ #[.func (.yield<|w.heap.size+1) #[] #[]]},W1,gf,
  first++ #[.func (.yield<|w.heap.size+1) #[] #[]]++lb,W1,?_,?_,λ_ _=>trivial,?_,(λ_=>by decide),?_⟩
 .rw[<- hD,ha];exact run_enterLoop_outer _ _ _ _ _
 .simp only[resolve,hg];simp[go_sem]
 .simp[invoke,go_sem,eg]
 .have ht:∀{W:World} {o:Obj},W.heap[w.heap.size+1]? =some o->w.heap.size+2<=W.heap.size:=λh=>(bP.1 h).1
  refine(hL (w.heap.size+1)
   (λpre W=>I pre W/\W.heap[w.heap.size+1]? =some (.loop<|rec .ready none)/\W.heap[w.heap.size]? =some (.deferred<|some []))
   (λpre W=> ∃c,Ix c pre W/\W.heap[w.heap.size+1]? =some (.loop<|rec .done<|some c)/\W.heap[w.heap.size]? =some (.deferred<|some []))
   (λpre A B hs hE=>?_) (λpre A B hs hE=>?_) ?_ W1 hT ⟨h0 _ hB,hS,hR⟩).mono ?_
  .have hb:=hM A B hE;have hl:=ht hs.2.1;exact⟨hI pre A B hs.1 hl<|.xS hb,(hb.block _<|by omega).trans hs.2.1,(hb.block _<|by omega).trans hs.2.2⟩
  .obtain⟨c,hc,hl,hk⟩:=hs;have hb:=hM A B hE;have hW :=ht hl;exact⟨c,hv c pre A B hc hW<|.xS hb,(hb.block _<|by omega).trans hl,(hb.block _<|by omega).trans hk⟩
  .rintro pre x post W hZ ⟨hi,hl,hk⟩;have hN:=ht hl;have hy:=run_yield (P:=P) (args:=hf x) hl (by rw[ha];exact hY x);rw[ha]at hy;refine⟨fn,_,assign,body,hy,roundIn_of_wpIn hU<|hh _ x W _ ⟨_,run_beginRound hl<|by rw[ha],?_⟩⟩;have hX:(W.putObj (w.heap.size+1)<|.loop {rec .ready none with state:= .busy}).heap[w.heap.size+1]? =some (.loop {rec .ready none with state:= .busy}):=World.putObj_heap_same (by omega)
   have hV:(W.putObj (w.heap.size+1)<|.loop {rec .ready none with state:= .busy}).heap[w.heap.size]? =some (.deferred<|some []):=(World.putObj_heap_other<|by omega).trans hk;have hK:dY w.heap.size W<|W.putObj (w.heap.size+1)<|.loop {rec .ready none with state:= .busy}:=dY.putObj W _<|.inr rfl;refine wpIn_mono (hx _ pre x post _ hZ (Nat.le_trans hN hK.size)<|hI pre _ _ hi hN hK) ?_
   have fin : ∀ (jump : Option Code) (W3 : World), fK w.heap.size (W.putObj (w.heap.size + 1)<|.loop { rec .ready none with state := .busy }) W3 ->
       (Instr.endRound (w.heap.size+1) jump).run P W3= .ok (.bool jump.isNone) (W3.putObj (w.heap.size+1)<|.loop<|rec (if jump.isNone then .ready else .done) jump) /\
       w.heap.size+2<=W3.heap.size /\
       (W3.putObj (w.heap.size+1)<|.loop<|rec (if jump.isNone then .ready else .done) jump).heap[w.heap.size+1]? =some (.loop<|rec (if jump.isNone then .ready else .done) jump) /\
       (W3.putObj (w.heap.size+1)<|.loop<|rec (if jump.isNone then .ready else .done) jump).heap[w.heap.size]? =some (.deferred<|some []):=λjump W3 hd=>by
    have hP:=hd.2.trans hX;have hz:=ht hP;have:=run_endRound (P:=P) jump hP;rw[ha]at this ⊢;exact⟨this,hz,World.putObj_heap_same<|by omega,(World.putObj_heap_other<|by omega).trans<|hd.1.trans hV⟩
   rintro e a3 W3 hp;cases e with
   |normal =>
    obtain⟨hd,hF,hj⟩:=hp;obtain⟨hr,hz,ho,hn⟩:=fin none W3 hd;have hQ:dY w.heap.size W3<|W3.putObj (w.heap.size+1)<|.loop<|rec .ready none:=dY.putObj W3 _<|.inr rfl;exact⟨_,_,hr,.inl ⟨rfl,⟨hI _ _ _ hj hz hQ,ho,hn⟩,((hK.below hG<|by omega).trans hF).trans<|hQ.below hG<|by omega⟩⟩
   |ret =>
    obtain⟨hd,hj⟩:=hp;obtain⟨hr,hz,ho,hn⟩:=fin (some .ret) W3 hd;exact⟨_,_,hr,.inr ⟨rfl,.ret,hv _ _ _ _ hj hz<|dY.putObj W3 _<|.inr rfl,ho,hn⟩⟩
   |exit id =>
    obtain⟨hd,hj⟩:=hp;obtain⟨hr,hz,ho,hn⟩:=fin (some<|.exit id) W3 hd;exact⟨_,_,hr,.inr ⟨rfl,.exit id,hv _ _ _ _ hj hz<|dY.putObj W3 _<|.inr rfl,ho,hn⟩⟩
   |goto t =>
    obtain⟨hd,hj⟩:=hp;obtain⟨hr,hz,ho,hn⟩:=fin (some<|.goto t) W3 hd;exact⟨_,_,hr,.inr ⟨rfl,.goto t,hv _ _ _ _ hj hz<|dY.putObj W3 _<|.inr rfl,ho,hn⟩⟩
   |panic ch=>exact hp.elim
   |outgrown=>exact hp.elim
  .rintro e W2 ⟨⟨v,rfl⟩,(⟨hi,hl,hk⟩|⟨pre,hJ,c,hi,hl,hk⟩)⟩
   .have hz:=ht hl;refine⟨none,_,by have:=run_endLoop (P:=P) hl (by rw[ha];simp);rw[ha]at this;exact this,?_⟩;have hq:=dY.putObj (d:=w.heap.size) W2 (.loop<|rec .exhausted none)<|.inr rfl;rw[ha]at hq;exact hA _ (Nat.le_trans hz hq.size) (hI _ _ _ hi hz hq)<|(World.putObj_heap_other<|by omega).trans hk
   .have hz:=ht hl;refine⟨some c,_,by have:=run_endLoop (P:=P) hl (by rw[ha];simp);rw[ha]at this;exact this,?_⟩;have hq:=dY.putObj (d:=w.heap.size) W2 (.loop<|rec .exhausted<|some c)<|.inr rfl;rw[ha]at hq;exact hC c pre _ hJ (Nat.le_trans hz hq.size) (hv _ _ _ _ hi hz hq)<|(World.putObj_heap_other<|by omega).trans hk
end Go.Proofs.YtjojkakjmoefaaaGreatDoor

namespace Go
open Go.RowKit Go.Proofs.YtjojkakjmoefaaaGreatDoor
variable {b:Nat}{A:World}{t:TypeId}{v:Value}
def Boxed.ia{d:Nat}{B:World}(h:Boxed A b t v)(j:dY d A B)(D:b<d):Boxed B b t v:=(j.block b h.lt (by omega)<|by omega).trans h
def Boxed.below{j:Nat}{B:World}(h:Boxed A b t v)(G:Below j A B)(D:b<j):Boxed B b t v:=(G.block b D).trans h
def Boxed.setOther{c:Nat}(h:Boxed A b t v)(j:b≠c)(u:Value):Boxed (A.setCell ⟨c,0,none⟩ u) b t v:=(Below.heap_setCell A ⟨c,0,none⟩ u b j).trans h
def Boxed.jU{l:Nat}(h:Boxed A b t v)(j:b≠l)(o:Obj):Boxed (A.putObj l o) b t v:=(World.putObj_heap_other j).trans h
variable {w:World}
def RowKit.Below.set{B:Nat}{a:World}(h:Below B a w)(hp:B<=b)(u:Value):Below B a<|w.setCell ⟨b,0,none⟩ u:=h.setCell hp u
def RowKit.Below.put{B l:Nat}{a:World}(h:Below B a w)(hp:B<=l)(o:Obj):Below B a (w.putObj l o) :=
 h.trans ⟨rfl,rfl,rfl,by simp[World.putObj],λk j=>World.putObj_heap_other<|by omega⟩
def od{k:Nat}(u:Value){o:Option Obj}(j:k≠b)(h:w.heap[k]? =o):(w.setCell ⟨b,0,none⟩ u).heap[k]? =o:=(Below.heap_setCell w ⟨b,0,none⟩ u k j).trans h
