/-
  Worlds out of what a statement reads.
-/
import Derived.Test.YtcecidfnchcagaaGreatDoorAbM
import Derived.Test.YtcecidfnchcagaaGreatDoorKcM
import Derived.Test.YtcecidfnchcagaaGreatDoorMGa
set_option linter.all false
set_option maxRecDepth 100000
namespace NP
open NQ Go
def Lh:List T:=[.str, .int .i64, .int .i64]
def Ek:List T:=[.int .i64, .str, .slice Er]
def IT:List T:=[.slice Lh, .slice Ek, .str, .int .i64, .int .i64, .slice A2, .slice [.int .i64]]
theorem G8{r:List D}(h:Fits Lh r):∃x,r=j9 x:=by
 obtain⟨a,_,rfl,ha,h⟩:=h.cons;obtain⟨b,_,rfl,hb,h⟩:=h.cons;obtain⟨c,_,rfl,hc,h⟩:=h.cons;obtain rfl:=h.nil;obtain⟨a,rfl⟩:=oh ha;obtain⟨b,rfl⟩:=fh hb;obtain⟨c,rfl⟩:=fh hc;exact⟨⟨a,b,c⟩,rfl⟩
theorem CS{r:List D}(h:Fits Ek r):∃x,r=bZ x:=by
 obtain⟨a,_,rfl,ha,h⟩:=h.cons;obtain⟨b,_,rfl,hb,h⟩:=h.cons;obtain⟨c,_,rfl,hc,h⟩:=h.cons;obtain rfl:=h.nil;obtain⟨a,rfl⟩:=fh ha;obtain⟨b,rfl⟩:=oh hb;obtain⟨l,rfl⟩:=mA (fun _=>CT) hc;exact⟨⟨a,⟨b,l⟩⟩,rfl⟩
theorem G9{r:List D}(h:Fits [.int .i64] r):∃n:Int,r=[.int .i64 n]:=by
 obtain⟨a,_,rfl,ha,h⟩:=h.cons;obtain rfl:=h.nil;obtain⟨a,rfl⟩:=fh ha;exact⟨a,rfl⟩
theorem Fc{r:List D}(h:Fits IT r):∃x,r=cH x:=by
 obtain⟨a,_,rfl,ha,h⟩:=h.cons;obtain⟨b,_,rfl,hb,h⟩:=h.cons;obtain⟨c,_,rfl,hc,h⟩:=h.cons;obtain⟨d,_,rfl,hd,h⟩:=h.cons;obtain⟨e,_,rfl,he,h⟩:=h.cons;obtain⟨f,_,rfl,hf,h⟩:=h.cons;obtain⟨g,_,rfl,hg,h⟩:=h.cons;obtain rfl:=h.nil;obtain⟨a,rfl⟩:=mA (fun _=>G8) ha;obtain⟨b,rfl⟩:=mA (fun _=>CS) hb;obtain⟨c,rfl⟩:=oh hc;obtain⟨d,rfl⟩:=fh hd;obtain⟨e,rfl⟩:=fh he;obtain⟨f,rfl⟩:=mA (fun _=>wI) hf;obtain⟨g,rfl⟩:=mA (fun _=>G9) hg;exact⟨⟨a,b,⟨c,d,e,f⟩,g⟩,rfl⟩
end NP
namespace Go.Proofs.YtcecidfnchcagaaGreatDoor
open NQ NP Go.RowKit Go.WideShapes
theorem GC{H:Type}{enc:TypeId×Value->H}{W:World}{r:Reach}{base:Nat}{v:Value}{d:DataW H}{ps:List MemPlace}(hv:Value.okWide Tryz.prog W r base 29 v)(h:DataW.Trod enc Tryz.prog W 0 (fun _=>true) true 29 v d ps) :
 ∃z,Rep W (fun _=>False) (.agg (cH z)) v:=by
 obtain⟨ds,h1,h2⟩:=LD (cx:=cx) (f:=10) (es:=IT) bf (by kernel_rfl) Tryz.underlying29 hv h;obtain⟨z,rfl⟩:=Fc h1;exact⟨z,h2⟩
end Go.Proofs.YtcecidfnchcagaaGreatDoor
