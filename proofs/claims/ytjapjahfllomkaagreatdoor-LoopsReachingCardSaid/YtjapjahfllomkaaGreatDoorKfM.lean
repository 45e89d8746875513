/-
  Worlds out of what a statement reads.
-/
import Derived.Test.YtjapjahfllomkaaGreatDoorAbM
import Derived.Test.YtjapjahfllomkaaGreatDoorKcM
import Derived.Test.YtjapjahfllomkaaGreatDoorMGa
set_option linter.all false
set_option maxRecDepth 100000
namespace NP
open NQ Go
def Mi:List T:=[.str, .int .i64, .int .i64]
def EY:List T:=[.int .i64, .str, .slice E8]
def JH:List T:=[.slice Mi, .slice EY, .str, .int .i64, .int .i64, .slice Bv, .slice [.int .i64]]
theorem Ib{r:List D}(h:Fits Mi r):∃x,r=kK x:=by
 obtain⟨a,_,rfl,ha,h⟩:=h.cons;obtain⟨b,_,rfl,hb,h⟩:=h.cons;obtain⟨c,_,rfl,hc,h⟩:=h.cons;obtain rfl:=h.nil;obtain⟨a,rfl⟩:=oO ha;obtain⟨b,rfl⟩:=fq hb;obtain⟨c,rfl⟩:=fq hc;exact⟨⟨a,b,c⟩,rfl⟩
theorem Du{r:List D}(h:Fits EY r):∃x,r=cm x:=by
 obtain⟨a,_,rfl,ha,h⟩:=h.cons;obtain⟨b,_,rfl,hb,h⟩:=h.cons;obtain⟨c,_,rfl,hc,h⟩:=h.cons;obtain rfl:=h.nil;obtain⟨a,rfl⟩:=fq ha;obtain⟨b,rfl⟩:=oO hb;obtain⟨l,rfl⟩:=mZ (fun _=>Dv) hc;exact⟨⟨a,⟨b,l⟩⟩,rfl⟩
theorem Ic{r:List D}(h:Fits [.int .i64] r):∃n:Int,r=[.int .i64 n]:=by
 obtain⟨a,_,rfl,ha,h⟩:=h.cons;obtain rfl:=h.nil;obtain⟨a,rfl⟩:=fq ha;exact⟨a,rfl⟩
theorem FR{r:List D}(h:Fits JH r):∃x,r=bY x:=by
 obtain⟨a,_,rfl,ha,h⟩:=h.cons;obtain⟨b,_,rfl,hb,h⟩:=h.cons;obtain⟨c,_,rfl,hc,h⟩:=h.cons;obtain⟨d,_,rfl,hd,h⟩:=h.cons;obtain⟨e,_,rfl,he,h⟩:=h.cons;obtain⟨f,_,rfl,hf,h⟩:=h.cons;obtain⟨g,_,rfl,hg,h⟩:=h.cons;obtain rfl:=h.nil;obtain⟨a,rfl⟩:=mZ (fun _=>Ib) ha;obtain⟨b,rfl⟩:=mZ (fun _=>Du) hb;obtain⟨c,rfl⟩:=oO hc;obtain⟨d,rfl⟩:=fq hd;obtain⟨e,rfl⟩:=fq he;obtain⟨f,rfl⟩:=mZ (fun _=>xm) hf;obtain⟨g,rfl⟩:=mZ (fun _=>Ic) hg;exact⟨⟨a,b,⟨c,d,e,f⟩,g⟩,rfl⟩
end NP
namespace Go.Proofs.YtjapjahfllomkaaGreatDoor
open NQ NP Go.RowKit Go.WideShapes
theorem Hg{H:Type}{enc:TypeId×Value->H}{W:World}{r:Reach}{base:Nat}{v:Value}{d:DataW H}{ps:List MemPlace}(hv:Value.okWide Tryz.prog W r base 29 v)(h:DataW.Trod enc Tryz.prog W 0 (fun _=>true) true 29 v d ps) :
 ∃z,Rep W (fun _=>False) (.agg (bY z)) v:=by
 obtain⟨ds,h1,h2⟩:=MD (cx:=cx) (f:=10) (es:=JH) bf (by kernel_rfl) Tryz.underlying29 hv h;obtain⟨z,rfl⟩:=FR h1;exact⟨z,h2⟩
end Go.Proofs.YtjapjahfllomkaaGreatDoor
