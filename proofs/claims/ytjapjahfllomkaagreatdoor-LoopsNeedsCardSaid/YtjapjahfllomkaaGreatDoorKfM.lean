/-
  Worlds out of what a statement reads.
-/
import Derived.Test.YtjapjahfllomkaaGreatDoorAbM
import Derived.Test.YtjapjahfllomkaaGreatDoorKcM
import Derived.Test.YtjapjahfllomkaaGreatDoorMGa
set_option linter.all false
set_option maxRecDepth 100000
namespace NP
open NQ Go
def Mc:List T:=[.str, .int .i64, .int .i64]
def EV:List T:=[.int .i64, .str, .slice E4]
def JE:List T:=[.slice Mc, .slice EV, .str, .int .i64, .int .i64, .slice Bx, .slice [.int .i64]]
theorem H9{r:List D}(h:Fits Mc r):∃x,r=kC x:=by
 obtain⟨a,_,rfl,ha,h⟩:=h.cons;obtain⟨b,_,rfl,hb,h⟩:=h.cons;obtain⟨c,_,rfl,hc,h⟩:=h.cons;obtain rfl:=h.nil;obtain⟨a,rfl⟩:=oI ha;obtain⟨b,rfl⟩:=fu hb;obtain⟨c,rfl⟩:=fu hc;exact⟨⟨a,b,c⟩,rfl⟩
theorem Dx{r:List D}(h:Fits EV r):∃x,r=b7 x:=by
 obtain⟨a,_,rfl,ha,h⟩:=h.cons;obtain⟨b,_,rfl,hb,h⟩:=h.cons;obtain⟨c,_,rfl,hc,h⟩:=h.cons;obtain rfl:=h.nil;obtain⟨a,rfl⟩:=fu ha;obtain⟨b,rfl⟩:=oI hb;obtain⟨l,rfl⟩:=mS (fun _=>Dy) hc;exact⟨⟨a,⟨b,l⟩⟩,rfl⟩
theorem Ia{r:List D}(h:Fits [.int .i64] r):∃n:Int,r=[.int .i64 n]:=by
 obtain⟨a,_,rfl,ha,h⟩:=h.cons;obtain rfl:=h.nil;obtain⟨a,rfl⟩:=fu ha;exact⟨a,rfl⟩
theorem FM{r:List D}(h:Fits JE r):∃x,r=cv x:=by
 obtain⟨a,_,rfl,ha,h⟩:=h.cons;obtain⟨b,_,rfl,hb,h⟩:=h.cons;obtain⟨c,_,rfl,hc,h⟩:=h.cons;obtain⟨d,_,rfl,hd,h⟩:=h.cons;obtain⟨e,_,rfl,he,h⟩:=h.cons;obtain⟨f,_,rfl,hf,h⟩:=h.cons;obtain⟨g,_,rfl,hg,h⟩:=h.cons;obtain rfl:=h.nil;obtain⟨a,rfl⟩:=mS (fun _=>H9) ha;obtain⟨b,rfl⟩:=mS (fun _=>Dx) hb;obtain⟨c,rfl⟩:=oI hc;obtain⟨d,rfl⟩:=fu hd;obtain⟨e,rfl⟩:=fu he;obtain⟨f,rfl⟩:=mS (fun _=>xk) hf;obtain⟨g,rfl⟩:=mS (fun _=>Ia) hg;exact⟨⟨a,b,⟨c,d,e,f⟩,g⟩,rfl⟩
end NP
namespace Go.Proofs.YtjapjahfllomkaaGreatDoor
open NQ NP Go.RowKit Go.WideShapes
theorem Hd{H:Type}{enc:TypeId×Value->H}{W:World}{r:Reach}{base:Nat}{v:Value}{d:DataW H}{ps:List MemPlace}(hv:Value.okWide Tryz.prog W r base 29 v)(h:DataW.Trod enc Tryz.prog W 0 (fun _=>true) true 29 v d ps) :
 ∃z,Rep W (fun _=>False) (.agg (cv z)) v:=by
 obtain⟨ds,h1,h2⟩:=Mx (cx:=cx) (f:=10) (es:=JE) bf (by kernel_rfl) Tryz.underlying29 hv h;obtain⟨z,rfl⟩:=FM h1;exact⟨z,h2⟩
end Go.Proofs.YtjapjahfllomkaaGreatDoor
