/-
  One text.
-/
import Derived.Test.YtodofogcincleaaGreatDoorMKc
import Derived.Test.YtodofogcincleaaGreatDoorMGa
set_option linter.all false
set_option maxRecDepth 100000
namespace Go.Proofs.YtodofogcincleaaGreatDoor
open NQ Go.RowKit
def RO:List T:=[.str,.int .i64,.int .i64]
def JF:List T:=[.int .i64,.str,.slice JM]
def OK:List T:=[.slice RO,.slice JF,.str,.int .i64,.int .i64,.slice Fb,.slice [.int .i64]]
theorem MY{r:List D}(h:Fits RO r):∃x,r=fJ x:=by
 obtain⟨a,_,rfl,ha,h⟩:=h.cons;obtain⟨b,_,rfl,hb,h⟩:=h.cons;obtain⟨c,_,rfl,hc,h⟩:=h.cons;obtain rfl:=h.nil;obtain⟨a,rfl⟩:=nq ha;obtain⟨b,rfl⟩:=eT hb;obtain⟨c,rfl⟩:=eT hc;exact⟨⟨a,b,c⟩,rfl⟩
theorem Ht{r:List D}(h:Fits JF r):∃x,r=aR x:=by
 obtain⟨a,_,rfl,ha,h⟩:=h.cons;obtain⟨b,_,rfl,hb,h⟩:=h.cons;obtain⟨c,_,rfl,hc,h⟩:=h.cons;obtain rfl:=h.nil;obtain⟨a,rfl⟩:=eT ha;obtain⟨b,rfl⟩:=nq hb;obtain⟨l,rfl⟩:=nA (λ_=>Hu) hc;exact⟨⟨a,⟨b,l⟩⟩,rfl⟩
theorem CH{r:List D}(h:Fits [.int .i64] r):∃n:Int,r=[.int .i64 n]:=by
 obtain⟨a,_,rfl,ha,h⟩:=h.cons;obtain rfl:=h.nil;obtain⟨a,rfl⟩:=eT ha;exact⟨a,rfl⟩
theorem KB{r:List D}(h:Fits OK r):∃x,r=bu x:=by
 obtain⟨a,_,rfl,ha,h⟩:=h.cons;obtain⟨b,_,rfl,hb,h⟩:=h.cons;obtain⟨c,_,rfl,hc,h⟩:=h.cons;obtain⟨d,_,rfl,hd,h⟩:=h.cons;obtain⟨e,_,rfl,he,h⟩:=h.cons;obtain⟨f,_,rfl,hf,h⟩:=h.cons;obtain⟨g,_,rfl,hg,h⟩:=h.cons;obtain rfl:=h.nil;obtain⟨a,rfl⟩:=nA (λ_=>MY) ha;obtain⟨b,rfl⟩:=nA (λ_=>Ht) hb;obtain⟨c,rfl⟩:=nq hc;obtain⟨d,rfl⟩:=eT hd;obtain⟨e,rfl⟩:=eT he;obtain⟨f,rfl⟩:=nA (λ_=>Af) hf;obtain⟨g,rfl⟩:=nA (λ_=>CH) hg;exact⟨⟨a,b,⟨c,d,e,f⟩,g⟩,rfl⟩
end Go.Proofs.YtodofogcincleaaGreatDoor
namespace Go.Proofs.YtodofogcincleaaGreatDoor
open NQ Go.RowKit Go.WideShapes
theorem Mu{H:Type}{enc:TypeId×Value->H}{W:World}{r:Reach}{base:Nat}{v:Value}{d:DataW H}{ps:List MemPlace}(hv:Value.okWide Tryz.prog W r base 29 v)(h:DataW.Trod enc Tryz.prog W 0 (λ_=>true) true 29 v d ps) :
 ∃z,Rep W (λ_=>False) (.agg (bu z)) v:=by
 obtain⟨ds,h1,h2⟩:=IS (cx:=cx) (f:=10) (es:=OK) bo (by kernel_rfl) Tryz.underlying29 hv h;obtain⟨z,rfl⟩:=KB h1;exact⟨z,h2⟩
end Go.Proofs.YtodofogcincleaaGreatDoor
