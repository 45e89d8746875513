/-
  Merged texts.
-/
import Derived.Test.YtjojkakjmoefaaaGreatDoorKbM
import Derived.Test.YtjojkakjmoefaaaGreatDoorMVa
import Derived.Test.YtjojkakjmoefaaaGreatDoorRows
set_option linter.all false
set_option maxRecDepth 100000
namespace Go.Proofs.YtjojkakjmoefaaaGreatDoor
open NQ Go.RowKit
def JU:List T:=[.str,.int .i64,.int .i64]
def abI:List T:=[.str,.int .i64,.int .i64,.int .i64,.int .i64,.int .u64]
def PL:List T:=[.str,.int .i64,.int .i64,.slice JU,.slice abI]
def Dz{r:List D}(h:Fits JU r):∃x,r=aS x:=by
 obtain⟨a,_,rfl,j,h⟩:=h.cons;obtain⟨b,_,rfl,G,h⟩:=h.cons;obtain⟨c,_,rfl,H,h⟩:=h.cons;obtain rfl:=h.nil;obtain⟨a,rfl⟩:=pK j;obtain⟨b,rfl⟩:=fR G;obtain⟨c,rfl⟩:=fR H;exact⟨⟨a,b,c⟩,rfl⟩
def WI{r:List D}(h:Fits abI r):∃x,r=oJ x:=by
 obtain⟨a,_,rfl,j,h⟩:=h.cons;obtain⟨b,_,rfl,G,h⟩:=h.cons;obtain⟨c,_,rfl,H,h⟩:=h.cons;obtain⟨d,_,rfl,I,h⟩:=h.cons;obtain⟨e,_,rfl,J,h⟩:=h.cons;obtain⟨f,_,rfl,K,h⟩:=h.cons;obtain rfl:=h.nil;obtain⟨a,rfl⟩:=pK j;obtain⟨b,rfl⟩:=fR G;obtain⟨c,rfl⟩:=fR H;obtain⟨d,rfl⟩:=fR I;obtain⟨e,rfl⟩:=fR J;obtain⟨f,rfl⟩:=fR K;exact⟨⟨a,b,c,d,e,f⟩,rfl⟩
def Nx{r:List D}(h:Fits PL r):∃x,r=an x:=by
 obtain⟨a,_,rfl,j,h⟩:=h.cons;obtain⟨b,_,rfl,G,h⟩:=h.cons;obtain⟨c,_,rfl,H,h⟩:=h.cons;obtain⟨d,_,rfl,I,h⟩:=h.cons;obtain⟨e,_,rfl,J,h⟩:=h.cons;obtain rfl:=h.nil;obtain⟨a,rfl⟩:=pK j;obtain⟨b,rfl⟩:=fR G;obtain⟨c,rfl⟩:=fR H;obtain⟨l,rfl⟩:=pS (λ_=>Dz) I;obtain⟨m,rfl⟩:=pS (λ_=>WI) J;exact⟨⟨⟨a,b,c,l⟩,m⟩,rfl⟩
end Go.Proofs.YtjojkakjmoefaaaGreatDoor

namespace Go.Proofs.YtjojkakjmoefaaaGreatDoor
open NQ Go.RowKit Go.WideShapes
def own:ownKnob Tryz.prog.godebug=none:=by kernel_rfl
def laidOut:laidOutB Tryz.prog=true:=by kernel_rfl
def aaD:Tryz.prog.globalNamed "nameplan/record.rules" =some 0:=by kernel_rfl
def QS{W:World}(h:laidMetH Tryz.prog [("nameplan/record.rules",Rows.laid_nameplan_record_rules)] W):jO cx W :=
 WW (cx:=cx) (t:=208) (g:=0) (f:=8) (cells:=zQ) (es:=(NQ.shape cx.ty 8 208).getD []) bf
  (λx cs j=>by
   have j:NQ.find QR x=some cs:=j;unfold QR NQ.find at j;split at j
   .rename_i D;cases j;exact⟨(bg D).symm,rfl⟩
   .cases j) aaD (by kernel_rfl) (by kernel_rfl) (by kernel_rfl) (by kernel_rfl) (by kernel_rfl) h
def ab0{H:Type}{enc:TypeId×Value->H}{W:World}{r:Reach}{base:Nat}{v:Value}{d:DataW H}{D:List MemPlace}(j:Value.okWide Tryz.prog W r base 9 v)(h:DataW.Trod enc Tryz.prog W 0 (λ_=>true) true 9 v d D) :
 ∃s,Rep W (λ_=>False) (.str s) v:=arg_str (cx:=cx) (f:=8) bf (by kernel_rfl) Tryz.underlying9 j h
def YH{H:Type}{enc:TypeId×Value->H}{W:World}{r:Reach}{base:Nat}{v:Value}{d:DataW H}{D:List MemPlace}(j:Value.okWide Tryz.prog W r base 3 v)(h:DataW.Trod enc Tryz.prog W 0 (λ_=>true) true 3 v d D) :
 ∃n,(Lit.int .i64 n).wf=true/\Rep W (λ_=>False) (.int .i64 n) v:=Zp (cx:=cx) (f:=8) bf (by kernel_rfl) Tryz.underlying3 j h
