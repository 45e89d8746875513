/-
  One text.
-/
import Derived.Test.YtjapjahfllomkaaGreatDoorKcM
import Derived.Test.YtjapjahfllomkaaGreatDoorMGa
set_option linter.all false
set_option maxRecDepth 100000
namespace NP
open NQ Go
def QS:List T:=[.str,.int .i64,.int .i64]
def IH:List T:=[.int .i64,.str,.slice IQ]
def NT:List T:=[.slice QS,.slice IH,.str,.int .i64,.int .i64,.slice Ee,.slice [.int .i64]]
theorem Md{r:List D}(h:Fits QS r):∃x,r=dw x:=by
 obtain⟨a,_,rfl,ha,h⟩:=h.cons;obtain⟨b,_,rfl,hb,h⟩:=h.cons;obtain⟨c,_,rfl,hc,h⟩:=h.cons;obtain rfl:=h.nil;obtain⟨a,rfl⟩:=pD ha;obtain⟨b,rfl⟩:=fH hb;obtain⟨c,rfl⟩:=fH hc;exact⟨⟨a,b,c⟩,rfl⟩
theorem GB{r:List D}(h:Fits IH r):∃x,r=aN x:=by
 obtain⟨a,_,rfl,ha,h⟩:=h.cons;obtain⟨b,_,rfl,hb,h⟩:=h.cons;obtain⟨c,_,rfl,hc,h⟩:=h.cons;obtain rfl:=h.nil;obtain⟨a,rfl⟩:=fH ha;obtain⟨b,rfl⟩:=pD hb;obtain⟨l,rfl⟩:=nG (λ_=>GC) hc;exact⟨⟨a,⟨b,l⟩⟩,rfl⟩
theorem Me{r:List D}(h:Fits [.int .i64] r):∃n:Int,r=[.int .i64 n]:=by
 obtain⟨a,_,rfl,ha,h⟩:=h.cons;obtain rfl:=h.nil;obtain⟨a,rfl⟩:=fH ha;exact⟨a,rfl⟩
theorem JJ{r:List D}(h:Fits NT r):∃x,r=ba x:=by
 obtain⟨a,_,rfl,ha,h⟩:=h.cons;obtain⟨b,_,rfl,hb,h⟩:=h.cons;obtain⟨c,_,rfl,hc,h⟩:=h.cons;obtain⟨d,_,rfl,hd,h⟩:=h.cons;obtain⟨e,_,rfl,he,h⟩:=h.cons;obtain⟨f,_,rfl,hf,h⟩:=h.cons;obtain⟨g,_,rfl,hg,h⟩:=h.cons;obtain rfl:=h.nil;obtain⟨a,rfl⟩:=nG (λ_=>Md) ha;obtain⟨b,rfl⟩:=nG (λ_=>GB) hb;obtain⟨c,rfl⟩:=pD hc;obtain⟨d,rfl⟩:=fH hd;obtain⟨e,rfl⟩:=fH he;obtain⟨f,rfl⟩:=nG (λ_=>zJ) hf;obtain⟨g,rfl⟩:=nG (λ_=>Me) hg;exact⟨⟨a,b,⟨c,d,e,f⟩,g⟩,rfl⟩
end NP
namespace Go.Proofs.YtjapjahfllomkaaGreatDoor
open NQ NP Go.RowKit Go.WideShapes
theorem Um{H:Type}{enc:TypeId×Value->H}{W:World}{r:Reach}{base:Nat}{v:Value}{d:DataW H}{ps:List MemPlace}(hv:Value.okWide Tryz.prog W r base 29 v)(h:DataW.Trod enc Tryz.prog W 0 (λ_=>true) true 29 v d ps) :
 ∃z,Rep W (λ_=>False) (.agg (ba z)) v:=by
 obtain⟨ds,h1,h2⟩:=Rk (cx:=cx) (f:=10) (es:=NT) aO (by kernel_rfl) Tryz.underlying29 hv h;obtain⟨z,rfl⟩:=JJ h1;exact⟨z,h2⟩
end Go.Proofs.YtjapjahfllomkaaGreatDoor
