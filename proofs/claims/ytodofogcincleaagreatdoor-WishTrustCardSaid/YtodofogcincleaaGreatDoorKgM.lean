/-
  One text.
-/
import Derived.Test.YtodofogcincleaaGreatDoorKfM
import Derived.Test.YtodofogcincleaaGreatDoorMYa
set_option linter.all false
set_option maxRecDepth 100000
namespace Go.Proofs.YtodofogcincleaaGreatDoor
open NQ Go.RowKit
def Sd:List T:=[.int .i64,.str,.str,.slice [.int .i64],.int .i64,.int .i64]
theorem MZ{r:List D}(h:Fits Sd r):∃x,r=bj x:=by
 obtain⟨a,_,rfl,ha,h⟩:=h.cons;obtain⟨b,_,rfl,hb,h⟩:=h.cons;obtain⟨c,_,rfl,hc,h⟩:=h.cons;obtain⟨d,_,rfl,hd,h⟩:=h.cons;obtain⟨e,_,rfl,he,h⟩:=h.cons;obtain⟨f,_,rfl,hf,h⟩:=h.cons;obtain rfl:=h.nil;obtain⟨a,rfl⟩:=eT ha;obtain⟨b,rfl⟩:=nq hb;obtain⟨c,rfl⟩:=nq hc;obtain⟨d,rfl⟩:=nA (λ_=>CH) hd;obtain⟨e,rfl⟩:=eT he;obtain⟨f,rfl⟩:=eT hf;exact⟨⟨a,b,c,d,⟨e,f⟩⟩,rfl⟩
end Go.Proofs.YtodofogcincleaaGreatDoor
namespace Go.Proofs.YtodofogcincleaaGreatDoor
open NQ Go.RowKit Go.WideShapes
theorem Pf{H:Type}{enc:TypeId×Value->H}{W:World}{r:Reach}{base:Nat}{v:Value}{d:DataW H}{ps:List MemPlace}(hv:Value.okWide Tryz.prog W r base 33 v)(h:DataW.Trod enc Tryz.prog W 0 (λ_=>true) true 33 v d ps) :
 ∃z,Rep W (λ_=>False) (.agg (bj z)) v:=by
 obtain⟨ds,h1,h2⟩:=IS (cx:=cx) (f:=10) (es:=Sd) bo (by kernel_rfl) Tryz.underlying33 hv h;obtain⟨z,rfl⟩:=MZ h1;exact⟨z,h2⟩
end Go.Proofs.YtodofogcincleaaGreatDoor
