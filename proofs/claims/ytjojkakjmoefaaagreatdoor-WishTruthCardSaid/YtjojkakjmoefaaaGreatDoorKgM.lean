/-
  One text.
-/
import Derived.Test.YtjojkakjmoefaaaGreatDoorKfM
import Derived.Test.YtjojkakjmoefaaaGreatDoorMYa
set_option linter.all false
set_option maxRecDepth 100000
namespace Go.Proofs.YtjojkakjmoefaaaGreatDoor
open NQ Go.RowKit
def Zj:List T:=[.int .i64,.str,.str,.slice [.int .i64],.int .i64,.int .i64]
def TC{r:List D}(h:Fits Zj r):∃x,r=bw x:=by
 obtain⟨a,_,rfl,j,h⟩:=h.cons;obtain⟨b,_,rfl,G,h⟩:=h.cons;obtain⟨c,_,rfl,H,h⟩:=h.cons;obtain⟨d,_,rfl,I,h⟩:=h.cons;obtain⟨e,_,rfl,J,h⟩:=h.cons;obtain⟨f,_,rfl,K,h⟩:=h.cons;obtain rfl:=h.nil;obtain⟨a,rfl⟩:=fR j;obtain⟨b,rfl⟩:=pK G;obtain⟨c,rfl⟩:=pK H;obtain⟨d,rfl⟩:=pS (λ_=>GH) I;obtain⟨e,rfl⟩:=fR J;obtain⟨f,rfl⟩:=fR K;exact⟨⟨a,b,c,d,⟨e,f⟩⟩,rfl⟩
end Go.Proofs.YtjojkakjmoefaaaGreatDoor

namespace Go.Proofs.YtjojkakjmoefaaaGreatDoor
open NQ Go.RowKit Go.WideShapes
def VP{H:Type}{enc:TypeId×Value->H}{W:World}{r:Reach}{base:Nat}{v:Value}{d:DataW H}{G:List MemPlace}(D:Value.okWide Tryz.prog W r base 33 v)(h:DataW.Trod enc Tryz.prog W 0 (λ_=>true) true 33 v d G) :
 ∃z,Rep W (λ_=>False) (.agg<|bw z) v:=by
 obtain⟨ds,h1,j⟩:=OJ (cx:=cx) (f:=10) (es:=Zj) bf (by kernel_rfl) Tryz.underlying33 D h;obtain⟨z,rfl⟩:=TC h1;exact⟨z,j⟩
