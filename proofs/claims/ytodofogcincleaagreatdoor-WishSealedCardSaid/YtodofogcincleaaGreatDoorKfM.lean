/-
  One text.
-/
import Derived.Test.YtodofogcincleaaGreatDoorMKc
import Derived.Test.YtodofogcincleaaGreatDoorMGa
set_option linter.all false
set_option maxRecDepth 100000
namespace NP
open NQ Go
def PF:List T:=[.str,.int .i64,.int .i64]
def Hr:List T:=[.int .i64,.str,.slice Hy]
def MC:List T:=[.slice PF,.slice Hr,.str,.int .i64,.int .i64,.slice Dt,.slice [.int .i64]]
theorem Lb{r:List D}(h:Fits PF r):∃x,r=eN x:=by
 obtain⟨a,_,rfl,ha,h⟩:=h.cons;obtain⟨b,_,rfl,hb,h⟩:=h.cons;obtain⟨c,_,rfl,hc,h⟩:=h.cons;obtain rfl:=h.nil;obtain⟨a,rfl⟩:=mF ha;obtain⟨b,rfl⟩:=dV hb;obtain⟨c,rfl⟩:=dV hc;exact⟨⟨a,b,c⟩,rfl⟩
theorem FD{r:List D}(h:Fits Hr r):∃x,r=aC x:=by
 obtain⟨a,_,rfl,ha,h⟩:=h.cons;obtain⟨b,_,rfl,hb,h⟩:=h.cons;obtain⟨c,_,rfl,hc,h⟩:=h.cons;obtain rfl:=h.nil;obtain⟨a,rfl⟩:=dV ha;obtain⟨b,rfl⟩:=mF hb;obtain⟨l,rfl⟩:=mM (λ_=>FE) hc;exact⟨⟨a,⟨b,l⟩⟩,rfl⟩
theorem Bi{r:List D}(h:Fits [.int .i64] r):∃n:Int,r=[.int .i64 n]:=by
 obtain⟨a,_,rfl,ha,h⟩:=h.cons;obtain rfl:=h.nil;obtain⟨a,rfl⟩:=dV ha;exact⟨a,rfl⟩
theorem IJ{r:List D}(h:Fits MC r):∃x,r=bn x:=by
 obtain⟨a,_,rfl,ha,h⟩:=h.cons;obtain⟨b,_,rfl,hb,h⟩:=h.cons;obtain⟨c,_,rfl,hc,h⟩:=h.cons;obtain⟨d,_,rfl,hd,h⟩:=h.cons;obtain⟨e,_,rfl,he,h⟩:=h.cons;obtain⟨f,_,rfl,hf,h⟩:=h.cons;obtain⟨g,_,rfl,hg,h⟩:=h.cons;obtain rfl:=h.nil;obtain⟨a,rfl⟩:=mM (λ_=>Lb) ha;obtain⟨b,rfl⟩:=mM (λ_=>FD) hb;obtain⟨c,rfl⟩:=mF hc;obtain⟨d,rfl⟩:=dV hd;obtain⟨e,rfl⟩:=dV he;obtain⟨f,rfl⟩:=mM (λ_=>yy) hf;obtain⟨g,rfl⟩:=mM (λ_=>Bi) hg;exact⟨⟨a,b,⟨c,d,e,f⟩,g⟩,rfl⟩
end NP
namespace Go.Proofs.YtodofogcincleaaGreatDoor
open NQ NP Go.RowKit Go.WideShapes
theorem Kz{H:Type}{enc:TypeId×Value->H}{W:World}{r:Reach}{base:Nat}{v:Value}{d:DataW H}{ps:List MemPlace}(hv:Value.okWide Tryz.prog W r base 29 v)(h:DataW.Trod enc Tryz.prog W 0 (λ_=>true) true 29 v d ps) :
 ∃z,Rep W (λ_=>False) (.agg (bn z)) v:=by
 obtain⟨ds,h1,h2⟩:=GD (cx:=cx) (f:=10) (es:=MC) aV (by kernel_rfl) Tryz.underlying29 hv h;obtain⟨z,rfl⟩:=IJ h1;exact⟨z,h2⟩
end Go.Proofs.YtodofogcincleaaGreatDoor
