/-
  One text.
-/
import Derived.Test.YtodofogcincleaaGreatDoorKfM
import Derived.Test.YtodofogcincleaaGreatDoorMYa
set_option linter.all false
set_option maxRecDepth 100000
namespace Go.Proofs.YtodofogcincleaaGreatDoor
open NQ Go.RowKit
def Sl:List T:=[.int .i64,.str,.str,.slice [.int .i64],.int .i64,.int .i64]
theorem Nf{r:List D}(h:Fits Sl r):∃x,r=bj x:=by
 obtain⟨a,_,rfl,ha,h⟩:=h.cons;obtain⟨b,_,rfl,hb,h⟩:=h.cons;obtain⟨c,_,rfl,hc,h⟩:=h.cons;obtain⟨d,_,rfl,hd,h⟩:=h.cons;obtain⟨e,_,rfl,he,h⟩:=h.cons;obtain⟨f,_,rfl,hf,h⟩:=h.cons;obtain rfl:=h.nil;obtain⟨a,rfl⟩:=eU ha;obtain⟨b,rfl⟩:=nu hb;obtain⟨c,rfl⟩:=nu hc;obtain⟨d,rfl⟩:=nC (λ_=>CK) hd;obtain⟨e,rfl⟩:=eU he;obtain⟨f,rfl⟩:=eU hf;exact⟨⟨a,b,c,d,⟨e,f⟩⟩,rfl⟩
end Go.Proofs.YtodofogcincleaaGreatDoor
namespace Go.Proofs.YtodofogcincleaaGreatDoor
open NQ Go.RowKit Go.WideShapes
theorem Pk{H:Type}{enc:TypeId×Value->H}{W:World}{r:Reach}{base:Nat}{v:Value}{d:DataW H}{ps:List MemPlace}(hv:Value.okWide Tryz.prog W r base 33 v)(h:DataW.Trod enc Tryz.prog W 0 (λ_=>true) true 33 v d ps) :
 ∃z,Rep W (λ_=>False) (.agg (bj z)) v:=by
 obtain⟨ds,h1,h2⟩:=IV (cx:=cx) (f:=10) (es:=Sl) bp (by kernel_rfl) Tryz.underlying33 hv h;obtain⟨z,rfl⟩:=Nf h1;exact⟨z,h2⟩
end Go.Proofs.YtodofogcincleaaGreatDoor
