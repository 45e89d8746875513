/-
  One text.
-/
import Derived.Test.YtjojkakjmoefaaaGreatDoorMKc
import Derived.Test.YtjojkakjmoefaaaGreatDoorMGa
set_option linter.all false
set_option maxRecDepth 100000
namespace Go.Proofs.YtjojkakjmoefaaaGreatDoor
open NQ Go.RowKit
def YT:List T:=[.str,.int .i64,.int .i64]
def PD:List T:=[.int .i64,.str,.slice PL]
def Vv:List T:=[.slice YT,.slice PD,.str,.int .i64,.int .i64,.slice JU,.slice [.int .i64]]
def TB{r:List D}(h:Fits YT r):∃x,r=gG x:=by
 obtain⟨a,_,rfl,j,h⟩:=h.cons;obtain⟨b,_,rfl,G,h⟩:=h.cons;obtain⟨c,_,rfl,H,h⟩:=h.cons;obtain rfl:=h.nil;obtain⟨a,rfl⟩:=pK j;obtain⟨b,rfl⟩:=fR G;obtain⟨c,rfl⟩:=fR H;exact⟨⟨a,b,c⟩,rfl⟩
def Nw{r:List D}(h:Fits PD r):∃x,r=aP x:=by
 obtain⟨a,_,rfl,j,h⟩:=h.cons;obtain⟨b,_,rfl,G,h⟩:=h.cons;obtain⟨c,_,rfl,H,h⟩:=h.cons;obtain rfl:=h.nil;obtain⟨a,rfl⟩:=fR j;obtain⟨b,rfl⟩:=pK G;obtain⟨l,rfl⟩:=pS (λ_=>Nx) H;exact⟨⟨a,⟨b,l⟩⟩,rfl⟩
def GH{r:List D}(h:Fits [.int .i64] r):∃n:Int,r=[.int .i64 n]:=by
 obtain⟨a,_,rfl,j,h⟩:=h.cons;obtain rfl:=h.nil;obtain⟨a,rfl⟩:=fR j;exact⟨a,rfl⟩
def QL{r:List D}(h:Fits Vv r):∃x,r=bF x:=by
 obtain⟨a,_,rfl,j,h⟩:=h.cons;obtain⟨b,_,rfl,G,h⟩:=h.cons;obtain⟨c,_,rfl,H,h⟩:=h.cons;obtain⟨d,_,rfl,I,h⟩:=h.cons;obtain⟨e,_,rfl,J,h⟩:=h.cons;obtain⟨f,_,rfl,K,h⟩:=h.cons;obtain⟨g,_,rfl,N,h⟩:=h.cons;obtain rfl:=h.nil;obtain⟨a,rfl⟩:=pS (λ_=>TB) j;obtain⟨b,rfl⟩:=pS (λ_=>Nw) G;obtain⟨c,rfl⟩:=pK H;obtain⟨d,rfl⟩:=fR I;obtain⟨e,rfl⟩:=fR J;obtain⟨f,rfl⟩:=pS (λ_=>Dz) K;obtain⟨g,rfl⟩:=pS (λ_=>GH) N;exact⟨⟨a,b,⟨c,d,e,f⟩,g⟩,rfl⟩
end Go.Proofs.YtjojkakjmoefaaaGreatDoor

namespace Go.Proofs.YtjojkakjmoefaaaGreatDoor
open NQ Go.RowKit Go.WideShapes
def SQ{H:Type}{enc:TypeId×Value->H}{W:World}{r:Reach}{base:Nat}{v:Value}{d:DataW H}{G:List MemPlace}(D:Value.okWide Tryz.prog W r base 29 v)(h:DataW.Trod enc Tryz.prog W 0 (λ_=>true) true 29 v d G) :
 ∃z,Rep W (λ_=>False) (.agg<|bF z) v:=by
 obtain⟨ds,h1,j⟩:=OJ (cx:=cx) (f:=10) (es:=Vv) bf (by kernel_rfl) Tryz.underlying29 D h;obtain⟨z,rfl⟩:=QL h1;exact⟨z,j⟩
