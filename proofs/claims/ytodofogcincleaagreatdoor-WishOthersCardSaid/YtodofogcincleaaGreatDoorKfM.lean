/-
  One text.
-/
import Derived.Test.YtodofogcincleaaGreatDoorMKc
import Derived.Test.YtodofogcincleaaGreatDoorMGa
set_option linter.all false
set_option maxRecDepth 100000
namespace NP
open NQ Go
def OZ:List T:=[.str,.int .i64,.int .i64]
def GH:List T:=[.int .i64,.str,.slice GN]
def LS:List T:=[.slice OZ,.slice GH,.str,.int .i64,.int .i64,.slice CR,.slice [.int .i64]]
theorem Kn{r:List D}(h:Fits OZ r):∃x,r=eh x:=by
 obtain⟨a,_,rfl,ha,h⟩:=h.cons;obtain⟨b,_,rfl,hb,h⟩:=h.cons;obtain⟨c,_,rfl,hc,h⟩:=h.cons;obtain rfl:=h.nil;obtain⟨a,rfl⟩:=lT ha;obtain⟨b,rfl⟩:=dN hb;obtain⟨c,rfl⟩:=dN hc;exact⟨⟨a,b,c⟩,rfl⟩
theorem EY{r:List D}(h:Fits GH r):∃x,r=aA x:=by
 obtain⟨a,_,rfl,ha,h⟩:=h.cons;obtain⟨b,_,rfl,hb,h⟩:=h.cons;obtain⟨c,_,rfl,hc,h⟩:=h.cons;obtain rfl:=h.nil;obtain⟨a,rfl⟩:=dN ha;obtain⟨b,rfl⟩:=lT hb;obtain⟨l,rfl⟩:=mc (λ_=>EZ) hc;exact⟨⟨a,⟨b,l⟩⟩,rfl⟩
theorem AH{r:List D}(h:Fits [.int .i64] r):∃n:Int,r=[.int .i64 n]:=by
 obtain⟨a,_,rfl,ha,h⟩:=h.cons;obtain rfl:=h.nil;obtain⟨a,rfl⟩:=dN ha;exact⟨a,rfl⟩
theorem HH{r:List D}(h:Fits LS r):∃x,r=bt x:=by
 obtain⟨a,_,rfl,ha,h⟩:=h.cons;obtain⟨b,_,rfl,hb,h⟩:=h.cons;obtain⟨c,_,rfl,hc,h⟩:=h.cons;obtain⟨d,_,rfl,hd,h⟩:=h.cons;obtain⟨e,_,rfl,he,h⟩:=h.cons;obtain⟨f,_,rfl,hf,h⟩:=h.cons;obtain⟨g,_,rfl,hg,h⟩:=h.cons;obtain rfl:=h.nil;obtain⟨a,rfl⟩:=mc (λ_=>Kn) ha;obtain⟨b,rfl⟩:=mc (λ_=>EY) hb;obtain⟨c,rfl⟩:=lT hc;obtain⟨d,rfl⟩:=dN hd;obtain⟨e,rfl⟩:=dN he;obtain⟨f,rfl⟩:=mc (λ_=>xX) hf;obtain⟨g,rfl⟩:=mc (λ_=>AH) hg;exact⟨⟨a,b,⟨c,d,e,f⟩,g⟩,rfl⟩
end NP
namespace Go.Proofs.YtodofogcincleaaGreatDoor
open NQ NP Go.RowKit Go.WideShapes
theorem JO{H:Type}{enc:TypeId×Value->H}{W:World}{r:Reach}{base:Nat}{v:Value}{d:DataW H}{ps:List MemPlace}(hv:Value.okWide Tryz.prog W r base 29 v)(h:DataW.Trod enc Tryz.prog W 0 (λ_=>true) true 29 v d ps) :
 ∃z,Rep W (λ_=>False) (.agg (bt z)) v:=by
 obtain⟨ds,h1,h2⟩:=FV (cx:=cx) (f:=10) (es:=LS) aV (by kernel_rfl) Tryz.underlying29 hv h;obtain⟨z,rfl⟩:=HH h1;exact⟨z,h2⟩
end Go.Proofs.YtodofogcincleaaGreatDoor
