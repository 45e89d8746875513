/-
  One text.
-/
import Derived.Test.YtodofogcincleaaGreatDoorAbM
import Derived.RangeFuncNested
import Derived.RangeFuncBound
import Derived.RangeFuncCalls
import Derived.RangeFuncLeaves
import Derived.Shelf.Abstract
import Derived.WalkKit
import Derived.OwnWalkIn
import Derived.TacticsInMore
import Derived.LoopNIn
import Derived.LoopIn
set_option linter.all false
namespace Go.Proofs.YtodofogcincleaaGreatDoor
open Go.RowKit Go.Shelf
structure dV(d:Nat)(A B:World):Prop where
 os:B.os=A.os
 tape:B.tape=A.tape
 output:B.output=A.output
 size:A.heap.size<=B.heap.size
 block:∀k,k<A.heap.size->k≠d->k≠d+1->B.heap[k]? =A.heap[k]?
theorem dV.refl(d:Nat)(A:World):dV d A A:=⟨rfl,rfl,rfl,Nat.le_refl _,λ_ _ _ _=>rfl⟩
theorem dV.below{d B0:Nat}{A B:World}(h:dV d A B)(h0:B0<=d)(hd:d<=A.heap.size):Below B0 A B :=
 ⟨h.os,h.tape,h.output,h.size,λk hk=>h.block k (by omega) (by omega) (by omega)⟩
theorem dV.uw{d:Nat}{A B:World}(h:Below A.heap.size A B):dV d A B :=
 ⟨h.os,h.tape,h.output,h.size,λk hk _ _=>h.block k hk⟩
theorem dV.putObj{d l:Nat}(A:World)(o:Obj)(h:l=d\/l=d+1):dV d A (A.putObj l o):=by
 refine⟨rfl,rfl,rfl,by simp[World.putObj],λk _ h1 h2=>?_⟩;exact World.putObj_heap_other (by omega)
theorem dV.TG(A:World)(o p:Obj):dV A.heap.size A ((A.alloc o).alloc p) :=
 dV.uw (((Below.refl _ A).alloc (Nat.le_refl _) o).alloc (by simp) p)
def TE{α:Type}(P:Program)(gf:Nat)(first lb:Array Value)(hf:α->Array Value)(xs:List α)(Ab:World->World->Prop)(n₀:Nat)(W:World):Prop :=
 ∀(l:Nat) (J Jx:List α->World->Prop),(∀pre A B,J pre A->Ab A B->J pre B)->(∀pre A B,Jx pre A->Ab A B->Jx pre B) ->
  (∀pre x post W1,xs=pre++x::post->J pre W1->YieldAt Fence.wide 1 P l (hf x) W1 λe W' =>
   (e= .returned (.bool true)/\J (pre++[x]) W' /\Below n₀ W1 W')\/(e= .returned (.bool false)/\Jx (pre++[x]) W')) ->
  ∀W1,Below n₀ W W1->J [] W1->CallsIn Fence.wide 2 P gf (first++ #[.func (.yield l) #[] #[]]++lb) W1 λe W' =>(∃v,e= .returned v)/\(J xs W' \/ ∃pre,pre <+: xs/\Jx pre W')
def fq(d:Nat)(A B:World):Prop:=B.heap[d]? =A.heap[d]? /\B.heap[d+1]? =A.heap[d+1]?
theorem fq.refl(d:Nat)(A:World):fq d A A:=⟨rfl,rfl⟩
theorem fq.uw{d B0:Nat}{A B:World}(h:Below B0 A B)(hd:d+2<=B0):fq d A B:=⟨h.block d (by omega),h.block (d+1) (by omega)⟩
theorem fq.setCell{d:Nat}{A B:World}(h:fq d A B){p:Addr}(hp:p.block<d\/d+1<p.block)(v:Value):fq d A (B.setCell p v) :=
 ⟨(Below.heap_setCell B p v d (by omega)).trans h.1,(Below.heap_setCell B p v (d+1) (by omega)).trans h.2⟩
theorem fq.set{d b:Nat}{A B:World}(h:fq d A B)(hb:b<d\/d+1<b)(v:Value):fq d A (B.setCell ⟨b,0,none⟩ v):=h.setCell hb v
def UX{α:Type}(d n₀:Nat)(I:List α->World->Prop)(Ix:Code->List α->World->Prop)(ys:List α)(W:World):Exit->Act->World->Prop
 | .normal,_,W' =>fq d W W' /\Below n₀ W W' /\I ys W'
 | .ret,_,W' =>fq d W W' /\Ix .ret ys W'
 | .exit id,_,W' =>fq d W W' /\Ix (.exit id) ys W'
 | .goto t,_,W' =>fq d W W' /\Ix (.goto t) ys W'
 | .panic _,_,_=>False
 | .outgrown,_,_=>False
theorem sM{P:Program}{α:Type}{g:Operand}{ps:Array Tmp}{assign body:Code}{Q:Exit->Act->World->Prop}{a:Act}{w:World}
 {gf:Nat} {first lb:Array Value} (hg:a.eval g= .func (.func gf) first lb) (eg:∀args w,(callFunc gf args).run P w= .ok (.enter gf args) w)
 {hf:α->Array Value} {xs:List α} {Ab:World->World->Prop} {n₀:Nat} (hM:TE P gf first lb hf xs Ab n₀ w) (hJ:n₀<=w.heap.size)
 (hN:∀A B,Ab A B->Below A.heap.size A B) (hZ:∀x,(hf x).size=ps.size)
 (I:List α->World->Prop) (Ix:Code->List α->World->Prop) (hI:∀pre A B,I pre A->w.heap.size+2<=A.heap.size->dV w.heap.size A B->I pre B) (hx:∀c pre A B,Ix c pre A->w.heap.size+2<=A.heap.size->dV w.heap.size A B->Ix c pre B)
 (h0:∀W,dV w.heap.size w W->I [] W) (a₁:α->Act)
 (hj:∀(l:Nat) (x:α) (W:World) (K:Act->World->Prop),K (a₁ x) W ->
  assign.wpIn (Fence.wide.inRound l) 1 P (Exit.then K (λ_ _ _=>False)) {tmps:=(ps.zip (hf x)).foldl (λt (p,v)=>t.setIfInBounds p v) a.tmps,defers:=[]} W)
 (hA:∀(l:Nat) (pre:List α) (x:α) (post:List α) (W:World),xs=pre++x::post->w.heap.size+2<=W.heap.size->I pre W->body.wpIn (Fence.wide.inRound l) 1 P (UX w.heap.size n₀ I Ix (pre++[x]) W) (a₁ x) W)
 (hB:∀(W:World),w.heap.size+2<=W.heap.size->I xs W->W.heap[w.heap.size]? =some (.deferred (some []))->Q .normal {a with defers:={target:= .collected w.heap.size,args:= #[]}::a.defers} W)
 (hD:∀(c:Code) (pre:List α) (W:World),pre <+: xs->w.heap.size+2<=W.heap.size->Ix c pre W->W.heap[w.heap.size]? =some (.deferred (some []))->c.wpIn Fence.wide 3 P Q {a with defers:={target:= .collected w.heap.size,args:= #[]}::a.defers} W) :
 (Code.rangeFunc g ps assign body).wpIn Fence.wide 3 P Q a w:=by
 refine wpIn_rangeFunc ?_;intro fn hV;obtain⟨rec,ha⟩:∃rec:LoopState->Option Code->Loop,rec=λst pe=>{state:=st,pending:=pe,fn,tmps:=a.tmps,params:=ps,assign,body,defers:=w.heap.size}:=⟨_,rfl⟩
 obtain⟨W1,hE⟩:∃W1,(w.alloc (.deferred (some []))).alloc (.loop (rec .ready none))=W1:=⟨_,rfl⟩
 have hT:W1.heap[w.heap.size+1]? =some (.loop (rec .ready none)):=by
  rw[<- hE];have:=World.alloc_heap_new (w.alloc (.deferred (some []))) (.loop (rec .ready none));rwa [World.size_alloc]at this
 have hS:W1.heap[w.heap.size]? =some (.deferred (some [])):=by
  rw[<- hE];exact(Below.heap_alloc _ _ _ (by simp)).trans (World.alloc_heap_new w _)
 have hC:dV w.heap.size w W1:=by rw[<- hE];exact dV.TG w _ _
 have hU:Below n₀ w W1:=hC.below hJ (Nat.le_refl _);refine⟨w.heap.size+1,[{target:= .collected w.heap.size,args:= #[]}],W1,{target:= .fn (.func gf) lb,args:=first++ #[.func (.yield (w.heap.size+1)) #[] #[]]},W1,gf,
  first++ #[.func (.yield (w.heap.size+1)) #[] #[]]++lb,W1,?_,?_,λ_ _=>trivial,?_,(λ_=>by decide),?_⟩
 .rw[<- hE,ha];exact run_enterLoop_outer _ _ _ _ _
 .simp only[resolve,hg];simp[go_sem]
 .simp[invoke,go_sem,eg]
 .have hv:∀{W:World} {o:Obj},W.heap[w.heap.size+1]? =some o->w.heap.size+2<=W.heap.size:=λh=>(bI.1 h).1
  refine(hM (w.heap.size+1)
   (λpre W=>I pre W/\W.heap[w.heap.size+1]? =some (.loop (rec .ready none))/\W.heap[w.heap.size]? =some (.deferred (some [])))
   (λpre W=> ∃c,Ix c pre W/\W.heap[w.heap.size+1]? =some (.loop (rec .done (some c)))/\W.heap[w.heap.size]? =some (.deferred (some [])))
   (λpre A B hs hF=>?_) (λpre A B hs hF=>?_) ?_ W1 hU ⟨h0 _ hC,hT,hS⟩).mono ?_
  .have hb:=hN A B hF;have hl:=hv hs.2.1;exact⟨hI pre A B hs.1 hl (.uw hb),(hb.block _ (by omega)).trans hs.2.1,(hb.block _ (by omega)).trans hs.2.2⟩
  .obtain⟨c,hc,hl,hk⟩:=hs;have hb:=hN A B hF;have hX :=hv hl;exact⟨c,hx c pre A B hc hX (.uw hb),(hb.block _ (by omega)).trans hl,(hb.block _ (by omega)).trans hk⟩
  .rintro pre x post W ka ⟨hi,hl,hk⟩;have hP:=hv hl;have hy:=run_yield (P:=P) (args:=hf x) hl (by rw[ha];exact hZ x);rw[ha]at hy;refine⟨fn,_,assign,body,hy,roundIn_of_wpIn hV (hj _ x W _ ⟨_,run_beginRound hl (by rw[ha]),?_⟩)⟩;have hY:(W.putObj (w.heap.size+1) (.loop {rec .ready none with state:= .busy})).heap[w.heap.size+1]? =some (.loop {rec .ready none with state:= .busy}):=World.putObj_heap_same (by omega)
   have hW:(W.putObj (w.heap.size+1) (.loop {rec .ready none with state:= .busy})).heap[w.heap.size]? =some (.deferred (some [])):=(World.putObj_heap_other (by omega)).trans hk;have hL:dV w.heap.size W (W.putObj (w.heap.size+1) (.loop {rec .ready none with state:= .busy})):=dV.putObj W _ (.inr rfl);refine wpIn_mono (hA _ pre x post _ ka (Nat.le_trans hP hL.size) (hI pre _ _ hi hP hL)) ?_
   have fin : ∀ (jump : Option Code) (W3 : World), fq w.heap.size (W.putObj (w.heap.size + 1) (.loop { rec .ready none with state := .busy })) W3 ->
       (Instr.endRound (w.heap.size+1) jump).run P W3= .ok (.bool jump.isNone) (W3.putObj (w.heap.size+1) (.loop (rec (if jump.isNone then .ready else .done) jump))) /\
       w.heap.size+2<=W3.heap.size /\
       (W3.putObj (w.heap.size+1) (.loop (rec (if jump.isNone then .ready else .done) jump))).heap[w.heap.size+1]? =some (.loop (rec (if jump.isNone then .ready else .done) jump)) /\
       (W3.putObj (w.heap.size+1) (.loop (rec (if jump.isNone then .ready else .done) jump))).heap[w.heap.size]? =some (.deferred (some [])):=λjump W3 hh=>by
    have hQ:=hh.2.trans hY;have hz:=hv hQ;have:=run_endRound (P:=P) jump hQ;rw[ha]at this ⊢;exact⟨this,hz,World.putObj_heap_same (by omega),(World.putObj_heap_other (by omega)).trans (hh.1.trans hW)⟩
   rintro e a3 W3 hp;cases e with
   |normal =>
    obtain⟨hh,hG,hn⟩:=hp;obtain⟨hr,hz,ht,ho⟩:=fin none W3 hh;have hR:dV w.heap.size W3 (W3.putObj (w.heap.size+1) (.loop (rec .ready none))):=dV.putObj W3 _ (.inr rfl);exact⟨_,_,hr,.inl ⟨rfl,⟨hI _ _ _ hn hz hR,ht,ho⟩,((hL.below hJ (by omega)).trans hG).trans (hR.below hJ (by omega))⟩⟩
   |ret =>
    obtain⟨hh,hn⟩:=hp;obtain⟨hr,hz,ht,ho⟩:=fin (some .ret) W3 hh;exact⟨_,_,hr,.inr ⟨rfl,.ret,hx _ _ _ _ hn hz (dV.putObj W3 _ (.inr rfl)),ht,ho⟩⟩
   |exit id =>
    obtain⟨hh,hn⟩:=hp;obtain⟨hr,hz,ht,ho⟩:=fin (some (.exit id)) W3 hh;exact⟨_,_,hr,.inr ⟨rfl,.exit id,hx _ _ _ _ hn hz (dV.putObj W3 _ (.inr rfl)),ht,ho⟩⟩
   |goto t =>
    obtain⟨hh,hn⟩:=hp;obtain⟨hr,hz,ht,ho⟩:=fin (some (.goto t)) W3 hh;exact⟨_,_,hr,.inr ⟨rfl,.goto t,hx _ _ _ _ hn hz (dV.putObj W3 _ (.inr rfl)),ht,ho⟩⟩
   |panic ch=>exact hp.elim
   |outgrown=>exact hp.elim
  .rintro e W2 ⟨⟨v,rfl⟩,(⟨hi,hl,hk⟩|⟨pre,hK,c,hi,hl,hk⟩)⟩
   .have hz:=hv hl;refine⟨none,_,by have:=run_endLoop (P:=P) hl (by rw[ha];simp);rw[ha]at this;exact this,?_⟩;have hq:=dV.putObj (d:=w.heap.size) W2 (.loop (rec .exhausted none)) (.inr rfl);rw[ha]at hq;exact hB _ (Nat.le_trans hz hq.size) (hI _ _ _ hi hz hq) ((World.putObj_heap_other (by omega)).trans hk)
   .have hz:=hv hl;refine⟨some c,_,by have:=run_endLoop (P:=P) hl (by rw[ha];simp);rw[ha]at this;exact this,?_⟩;have hq:=dV.putObj (d:=w.heap.size) W2 (.loop (rec .exhausted (some c))) (.inr rfl);rw[ha]at hq;exact hD c pre _ hK (Nat.le_trans hz hq.size) (hx _ _ _ _ hi hz hq) ((World.putObj_heap_other (by omega)).trans hk)
end Go.Proofs.YtodofogcincleaaGreatDoor
namespace Go
open Go.RowKit Go.Proofs.YtodofogcincleaaGreatDoor
theorem Boxed.ix{d b:Nat}{A B:World}{t:TypeId}{v:Value}(h:Boxed A b t v)(hk:dV d A B)(hb:b<d):Boxed B b t v:=(hk.block b h.lt (by omega) (by omega)).trans h
theorem Boxed.below{B0 b:Nat}{A B:World}{t:TypeId}{v:Value}(h:Boxed A b t v)(hk:Below B0 A B)(hb:b<B0):Boxed B b t v:=(hk.block b hb).trans h
theorem Boxed.setOther{b c:Nat}{A:World}{t:TypeId}{v:Value}(h:Boxed A b t v)(hb:b≠c)(u:Value):Boxed (A.setCell ⟨c,0,none⟩ u) b t v:=(Below.heap_setCell A ⟨c,0,none⟩ u b hb).trans h
theorem Boxed.kE{b l:Nat}{A:World}{t:TypeId}{v:Value}(h:Boxed A b t v)(hb:b≠l)(o:Obj):Boxed (A.putObj l o) b t v:=(World.putObj_heap_other hb).trans h
theorem RowKit.Below.set{B b:Nat}{a w:World}(h:Below B a w)(hp:B<=b)(u:Value):Below B a (w.setCell ⟨b,0,none⟩ u):=h.setCell hp u
theorem RowKit.Below.put{B l:Nat}{a w:World}(h:Below B a w)(hp:B<=l)(o:Obj):Below B a (w.putObj l o) :=
 h.trans ⟨rfl,rfl,rfl,by simp[World.putObj],λk hk=>World.putObj_heap_other (by omega)⟩
theorem ov{b k:Nat}{w:World}(u:Value){o:Option Obj}(hk:k≠b)(h:w.heap[k]? =o):(w.setCell ⟨b,0,none⟩ u).heap[k]? =o:=(Below.heap_setCell w ⟨b,0,none⟩ u k hk).trans h
end Go
