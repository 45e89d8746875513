/-
  One text.
-/
import Derived.Test.YtodofogcincleaaGreatDoorMKc
import Derived.Test.YtodofogcincleaaGreatDoorMGa
set_option linter.all false
set_option maxRecDepth 100000
namespace Go.Proofs.YtodofogcincleaaGreatDoor
open NQ Go.RowKit
def RX:List T:=[.str,.int .i64,.int .i64]
def JJ:List T:=[.int .i64,.str,.slice JQ]
def OO:List T:=[.slice RX,.slice JJ,.str,.int .i64,.int .i64,.slice Fe,.slice [.int .i64]]
theorem Nd{r:List D}(h:Fits RX r):∃x,r=fJ x:=by
 obtain⟨a,_,rfl,ha,h⟩:=h.cons;obtain⟨b,_,rfl,hb,h⟩:=h.cons;obtain⟨c,_,rfl,hc,h⟩:=h.cons;obtain rfl:=h.nil;obtain⟨a,rfl⟩:=nu ha;obtain⟨b,rfl⟩:=eU hb;obtain⟨c,rfl⟩:=eU hc;exact⟨⟨a,b,c⟩,rfl⟩
theorem Hw{r:List D}(h:Fits JJ r):∃x,r=aR x:=by
 obtain⟨a,_,rfl,ha,h⟩:=h.cons;obtain⟨b,_,rfl,hb,h⟩:=h.cons;obtain⟨c,_,rfl,hc,h⟩:=h.cons;obtain rfl:=h.nil;obtain⟨a,rfl⟩:=eU ha;obtain⟨b,rfl⟩:=nu hb;obtain⟨l,rfl⟩:=nC (λ_=>Hy) hc;exact⟨⟨a,⟨b,l⟩⟩,rfl⟩
theorem CK{r:List D}(h:Fits [.int .i64] r):∃n:Int,r=[.int .i64 n]:=by
 obtain⟨a,_,rfl,ha,h⟩:=h.cons;obtain rfl:=h.nil;obtain⟨a,rfl⟩:=eU ha;exact⟨a,rfl⟩
theorem KF{r:List D}(h:Fits OO r):∃x,r=bu x:=by
 obtain⟨a,_,rfl,ha,h⟩:=h.cons;obtain⟨b,_,rfl,hb,h⟩:=h.cons;obtain⟨c,_,rfl,hc,h⟩:=h.cons;obtain⟨d,_,rfl,hd,h⟩:=h.cons;obtain⟨e,_,rfl,he,h⟩:=h.cons;obtain⟨f,_,rfl,hf,h⟩:=h.cons;obtain⟨g,_,rfl,hg,h⟩:=h.cons;obtain rfl:=h.nil;obtain⟨a,rfl⟩:=nC (λ_=>Nd) ha;obtain⟨b,rfl⟩:=nC (λ_=>Hw) hb;obtain⟨c,rfl⟩:=nu hc;obtain⟨d,rfl⟩:=eU hd;obtain⟨e,rfl⟩:=eU he;obtain⟨f,rfl⟩:=nC (λ_=>Ai) hf;obtain⟨g,rfl⟩:=nC (λ_=>CK) hg;exact⟨⟨a,b,⟨c,d,e,f⟩,g⟩,rfl⟩
end Go.Proofs.YtodofogcincleaaGreatDoor
namespace Go.Proofs.YtodofogcincleaaGreatDoor
open NQ Go.RowKit Go.WideShapes
theorem MA{H:Type}{enc:TypeId×Value->H}{W:World}{r:Reach}{base:Nat}{v:Value}{d:DataW H}{ps:List MemPlace}(hv:Value.okWide Tryz.prog W r base 29 v)(h:DataW.Trod enc Tryz.prog W 0 (λ_=>true) true 29 v d ps) :
 ∃z,Rep W (λ_=>False) (.agg (bu z)) v:=by
 obtain⟨ds,h1,h2⟩:=IV (cx:=cx) (f:=10) (es:=OO) bp (by kernel_rfl) Tryz.underlying29 hv h;obtain⟨z,rfl⟩:=KF h1;exact⟨z,h2⟩
end Go.Proofs.YtodofogcincleaaGreatDoor
