/-
  Worlds out of what a statement reads.
-/
import Derived.Test.YtcecidfnchcagaaGreatDoorKcM
import Derived.Test.YtcecidfnchcagaaGreatDoorMGa
set_option linter.all false
set_option maxRecDepth 100000
namespace NP
open NQ Go
def Lx:List T:=[.str, .int .i64, .int .i64]
def Er:List T:=[.int .i64, .str, .slice Ez]
def Jb:List T:=[.slice Lx, .slice Er, .str, .int .i64, .int .i64, .slice AS, .slice [.int .i64]]
theorem Hg{r:List D}(h:Fits Lx r):∃x,r=jW x:=by
 obtain⟨a,_,rfl,ha,h⟩:=h.cons;obtain⟨b,_,rfl,hb,h⟩:=h.cons;obtain⟨c,_,rfl,hc,h⟩:=h.cons;obtain rfl:=h.nil;obtain⟨a,rfl⟩:=nE ha;obtain⟨b,rfl⟩:=eC hb;obtain⟨c,rfl⟩:=eC hc;exact⟨⟨a,b,c⟩,rfl⟩
theorem CR{r:List D}(h:Fits Er r):∃x,r=bx x:=by
 obtain⟨a,_,rfl,ha,h⟩:=h.cons;obtain⟨b,_,rfl,hb,h⟩:=h.cons;obtain⟨c,_,rfl,hc,h⟩:=h.cons;obtain rfl:=h.nil;obtain⟨a,rfl⟩:=eC ha;obtain⟨b,rfl⟩:=nE hb;obtain⟨l,rfl⟩:=lX (fun _=>CS) hc;exact⟨⟨a,⟨b,l⟩⟩,rfl⟩
theorem Hh{r:List D}(h:Fits [.int .i64] r):∃n:Int,r=[.int .i64 n]:=by
 obtain⟨a,_,rfl,ha,h⟩:=h.cons;obtain rfl:=h.nil;obtain⟨a,rfl⟩:=eC ha;exact⟨a,rfl⟩
theorem Fo{r:List D}(h:Fits Jb r):∃x,r=bp x:=by
 obtain⟨a,_,rfl,ha,h⟩:=h.cons;obtain⟨b,_,rfl,hb,h⟩:=h.cons;obtain⟨c,_,rfl,hc,h⟩:=h.cons;obtain⟨d,_,rfl,hd,h⟩:=h.cons;obtain⟨e,_,rfl,he,h⟩:=h.cons;obtain⟨f,_,rfl,hf,h⟩:=h.cons;obtain⟨g,_,rfl,hg,h⟩:=h.cons;obtain rfl:=h.nil;obtain⟨a,rfl⟩:=lX (fun _=>Hg) ha;obtain⟨b,rfl⟩:=lX (fun _=>CR) hb;obtain⟨c,rfl⟩:=nE hc;obtain⟨d,rfl⟩:=eC hd;obtain⟨e,rfl⟩:=eC he;obtain⟨f,rfl⟩:=lX (fun _=>wF) hf;obtain⟨g,rfl⟩:=lX (fun _=>Hh) hg;exact⟨⟨a,b,⟨c,d,e,f⟩,g⟩,rfl⟩
end NP
namespace Go.Proofs.YtcecidfnchcagaaGreatDoor
open NQ NP Go.RowKit Go.WideShapes
theorem Oc{H:Type}{enc:TypeId×Value->H}{W:World}{r:Reach}{base:Nat}{v:Value}{d:DataW H}{ps:List MemPlace}(hv:Value.okWide Tryz.prog W r base 29 v)(h:DataW.Trod enc Tryz.prog W 0 (fun _=>true) true 29 v d ps) :
 ∃z,Rep W (fun _=>False) (.agg (bp z)) v:=by
 obtain⟨ds,h1,h2⟩:=LQ (cx:=cx) (f:=10) (es:=Jb) aH (by kernel_rfl) Tryz.underlying29 hv h;obtain⟨z,rfl⟩:=Fo h1;exact⟨z,h2⟩
end Go.Proofs.YtcecidfnchcagaaGreatDoor
