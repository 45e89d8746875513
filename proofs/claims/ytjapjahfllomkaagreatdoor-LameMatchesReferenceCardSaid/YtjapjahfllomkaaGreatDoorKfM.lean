/-
  One text.
-/
import Derived.Test.YtjapjahfllomkaaGreatDoorKcM
import Derived.Test.YtjapjahfllomkaaGreatDoorMGa
set_option linter.all false
set_option maxRecDepth 100000
namespace NP
open NQ Go
def Nq:List T:=[.str,.int .i64,.int .i64]
def F2:List T:=[.int .i64,.str,.slice Ga]
def KO:List T:=[.slice Nq,.slice F2,.str,.int .i64,.int .i64,.slice CB,.slice [.int .i64]]
theorem Jo{r:List D}(h:Fits Nq r):∃x,r=dV x:=by
 obtain⟨a,_,rfl,ha,h⟩:=h.cons;obtain⟨b,_,rfl,hb,h⟩:=h.cons;obtain⟨c,_,rfl,hc,h⟩:=h.cons;obtain rfl:=h.nil;obtain⟨a,rfl⟩:=pA ha;obtain⟨b,rfl⟩:=fR hb;obtain⟨c,rfl⟩:=fR hc;exact⟨⟨a,b,c⟩,rfl⟩
theorem EC{r:List D}(h:Fits F2 r):∃x,r=bn x:=by
 obtain⟨a,_,rfl,ha,h⟩:=h.cons;obtain⟨b,_,rfl,hb,h⟩:=h.cons;obtain⟨c,_,rfl,hc,h⟩:=h.cons;obtain rfl:=h.nil;obtain⟨a,rfl⟩:=fR ha;obtain⟨b,rfl⟩:=pA hb;obtain⟨l,rfl⟩:=nC (λ_=>ED) hc;exact⟨⟨a,⟨b,l⟩⟩,rfl⟩
theorem Jp{r:List D}(h:Fits [.int .i64] r):∃n:Int,r=[.int .i64 n]:=by
 obtain⟨a,_,rfl,ha,h⟩:=h.cons;obtain rfl:=h.nil;obtain⟨a,rfl⟩:=fR ha;exact⟨a,rfl⟩
theorem GU{r:List D}(h:Fits KO r):∃x,r=bw x:=by
 obtain⟨a,_,rfl,ha,h⟩:=h.cons;obtain⟨b,_,rfl,hb,h⟩:=h.cons;obtain⟨c,_,rfl,hc,h⟩:=h.cons;obtain⟨d,_,rfl,hd,h⟩:=h.cons;obtain⟨e,_,rfl,he,h⟩:=h.cons;obtain⟨f,_,rfl,hf,h⟩:=h.cons;obtain⟨g,_,rfl,hg,h⟩:=h.cons;obtain rfl:=h.nil;obtain⟨a,rfl⟩:=nC (λ_=>Jo) ha;obtain⟨b,rfl⟩:=nC (λ_=>EC) hb;obtain⟨c,rfl⟩:=pA hc;obtain⟨d,rfl⟩:=fR hd;obtain⟨e,rfl⟩:=fR he;obtain⟨f,rfl⟩:=nC (λ_=>ym) hf;obtain⟨g,rfl⟩:=nC (λ_=>Jp) hg;exact⟨⟨a,b,⟨c,d,e,f⟩,g⟩,rfl⟩
end NP
namespace Go.Proofs.YtjapjahfllomkaaGreatDoor
open NQ NP Go.RowKit Go.WideShapes
theorem IY{H:Type}{enc:TypeId×Value->H}{W:World}{r:Reach}{base:Nat}{v:Value}{d:DataW H}{ps:List MemPlace}(hv:Value.okWide Tryz.prog W r base 29 v)(h:DataW.Trod enc Tryz.prog W 0 (λ_=>true) true 29 v d ps) :
 ∃z,Rep W (λ_=>False) (.agg (bw z)) v:=by
 obtain⟨ds,h1,h2⟩:=NK (cx:=cx) (f:=10) (es:=KO) aP (by kernel_rfl) Tryz.underlying29 hv h;obtain⟨z,rfl⟩:=GU h1;exact⟨z,h2⟩
end Go.Proofs.YtjapjahfllomkaaGreatDoor
