/-
  One text.
-/
import Derived.Test.YtodofogcincleaaGreatDoorKfM
import Derived.Test.YtodofogcincleaaGreatDoorMYa
set_option linter.all false
set_option maxRecDepth 100000
namespace NP
open NQ Go
def PS:List T:=[.int .i64,.str,.str,.slice [.int .i64],.int .i64,.int .i64]
theorem Lc{r:List D}(h:Fits PS r):∃x,r=aS x:=by
 obtain⟨a,_,rfl,ha,h⟩:=h.cons;obtain⟨b,_,rfl,hb,h⟩:=h.cons;obtain⟨c,_,rfl,hc,h⟩:=h.cons;obtain⟨d,_,rfl,hd,h⟩:=h.cons;obtain⟨e,_,rfl,he,h⟩:=h.cons;obtain⟨f,_,rfl,hf,h⟩:=h.cons;obtain rfl:=h.nil;obtain⟨a,rfl⟩:=dV ha;obtain⟨b,rfl⟩:=mF hb;obtain⟨c,rfl⟩:=mF hc;obtain⟨d,rfl⟩:=mM (λ_=>Bi) hd;obtain⟨e,rfl⟩:=dV he;obtain⟨f,rfl⟩:=dV hf;exact⟨⟨a,b,c,d,⟨e,f⟩⟩,rfl⟩
end NP
namespace Go.Proofs.YtodofogcincleaaGreatDoor
open NQ NP Go.RowKit Go.WideShapes
theorem MU{H:Type}{enc:TypeId×Value->H}{W:World}{r:Reach}{base:Nat}{v:Value}{d:DataW H}{ps:List MemPlace}(hv:Value.okWide Tryz.prog W r base 33 v)(h:DataW.Trod enc Tryz.prog W 0 (λ_=>true) true 33 v d ps) :
 ∃z,Rep W (λ_=>False) (.agg (aS z)) v:=by
 obtain⟨ds,h1,h2⟩:=GD (cx:=cx) (f:=10) (es:=PS) aV (by kernel_rfl) Tryz.underlying33 hv h;obtain⟨z,rfl⟩:=Lc h1;exact⟨z,h2⟩
end Go.Proofs.YtodofogcincleaaGreatDoor
