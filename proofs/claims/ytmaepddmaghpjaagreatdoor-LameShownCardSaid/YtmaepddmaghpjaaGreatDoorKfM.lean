/-
  One text.
-/
import Derived.Test.YtmaepddmaghpjaaGreatDoorKcM
import Derived.Test.YtmaepddmaghpjaaGreatDoorMGa
set_option linter.all false
set_option maxRecDepth 100000
namespace NP
open NQ Go
def Qd:List T:=[.str,.int .i64,.int .i64]
def Hl:List T:=[.int .i64,.str,.slice Ht]
def MZ:List T:=[.slice Qd,.slice Hl,.str,.int .i64,.int .i64,.slice Dn,.slice [.int .i64]]
theorem Lj{r:List D}(h:Fits Qd r):∃x,r=dS x:=by
 obtain⟨a,_,rfl,ha,h⟩:=h.cons;obtain⟨b,_,rfl,hb,h⟩:=h.cons;obtain⟨c,_,rfl,hc,h⟩:=h.cons;obtain rfl:=h.nil;obtain⟨a,rfl⟩:=pc ha;obtain⟨b,rfl⟩:=fy hb;obtain⟨c,rfl⟩:=fy hc;exact⟨⟨a,b,c⟩,rfl⟩
theorem FJ{r:List D}(h:Fits Hl r):∃x,r=aV x:=by
 obtain⟨a,_,rfl,ha,h⟩:=h.cons;obtain⟨b,_,rfl,hb,h⟩:=h.cons;obtain⟨c,_,rfl,hc,h⟩:=h.cons;obtain rfl:=h.nil;obtain⟨a,rfl⟩:=fy ha;obtain⟨b,rfl⟩:=pc hb;obtain⟨l,rfl⟩:=nj (λ_=>FK) hc;exact⟨⟨a,⟨b,l⟩⟩,rfl⟩
theorem Lk{r:List D}(h:Fits [.int .i64] r):∃n:Int,r=[.int .i64 n]:=by
 obtain⟨a,_,rfl,ha,h⟩:=h.cons;obtain rfl:=h.nil;obtain⟨a,rfl⟩:=fy ha;exact⟨a,rfl⟩
theorem IM{r:List D}(h:Fits MZ r):∃x,r=aZ x:=by
 obtain⟨a,_,rfl,ha,h⟩:=h.cons;obtain⟨b,_,rfl,hb,h⟩:=h.cons;obtain⟨c,_,rfl,hc,h⟩:=h.cons;obtain⟨d,_,rfl,hd,h⟩:=h.cons;obtain⟨e,_,rfl,he,h⟩:=h.cons;obtain⟨f,_,rfl,hf,h⟩:=h.cons;obtain⟨g,_,rfl,hg,h⟩:=h.cons;obtain rfl:=h.nil;obtain⟨a,rfl⟩:=nj (λ_=>Lj) ha;obtain⟨b,rfl⟩:=nj (λ_=>FJ) hb;obtain⟨c,rfl⟩:=pc hc;obtain⟨d,rfl⟩:=fy hd;obtain⟨e,rfl⟩:=fy he;obtain⟨f,rfl⟩:=nj (λ_=>yM) hf;obtain⟨g,rfl⟩:=nj (λ_=>Lk) hg;exact⟨⟨a,b,⟨c,d,e,f⟩,g⟩,rfl⟩
end NP
namespace Go.Proofs.YtmaepddmaghpjaaGreatDoor
open NQ NP Go.RowKit Go.WideShapes
theorem KI{H:Type}{enc:TypeId×Value->H}{W:World}{r:Reach}{base:Nat}{v:Value}{d:DataW H}{ps:List MemPlace}(hv:Value.okWide Tryz.prog W r base 29 v)(h:DataW.Trod enc Tryz.prog W 0 (λ_=>true) true 29 v d ps) :
 ∃z,Rep W (λ_=>False) (.agg (aZ z)) v:=by
 obtain⟨ds,h1,h2⟩:=Qv (cx:=cx) (f:=10) (es:=MZ) aO (by kernel_rfl) Tryz.underlying29 hv h;obtain⟨z,rfl⟩:=IM h1;exact⟨z,h2⟩
end Go.Proofs.YtmaepddmaghpjaaGreatDoor
