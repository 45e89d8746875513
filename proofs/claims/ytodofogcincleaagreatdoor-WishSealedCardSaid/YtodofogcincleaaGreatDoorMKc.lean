/-
  Merged texts.
-/
import Derived.Test.YtodofogcincleaaGreatDoorKbM
import Derived.Test.YtodofogcincleaaGreatDoorMVa
import Derived.Test.YtodofogcincleaaGreatDoorRows
set_option linter.all false
set_option maxRecDepth 100000
namespace NP
open NQ Go
def Dt:List T:=[.str,.int .i64,.int .i64]
def Sj:List T:=[.str,.int .i64,.int .i64,.int .i64,.int .i64,.int .u64]
def Hy:List T:=[.str,.int .i64,.int .i64,.slice Dt,.slice Sj]
theorem yy{r:List D}(h:Fits Dt r):∃x,r=aI x:=by
 obtain⟨a,_,rfl,ha,h⟩:=h.cons;obtain⟨b,_,rfl,hb,h⟩:=h.cons;obtain⟨c,_,rfl,hc,h⟩:=h.cons;obtain rfl:=h.nil;obtain⟨a,rfl⟩:=mF ha;obtain⟨b,rfl⟩:=dV hb;obtain⟨c,rfl⟩:=dV hc;exact⟨⟨a,b,c⟩,rfl⟩
theorem NC{r:List D}(h:Fits Sj r):∃x,r=lH x:=by
 obtain⟨a,_,rfl,ha,h⟩:=h.cons;obtain⟨b,_,rfl,hb,h⟩:=h.cons;obtain⟨c,_,rfl,hc,h⟩:=h.cons;obtain⟨d,_,rfl,hd,h⟩:=h.cons;obtain⟨e,_,rfl,he,h⟩:=h.cons;obtain⟨f,_,rfl,hf,h⟩:=h.cons;obtain rfl:=h.nil;obtain⟨a,rfl⟩:=mF ha;obtain⟨b,rfl⟩:=dV hb;obtain⟨c,rfl⟩:=dV hc;obtain⟨d,rfl⟩:=dV hd;obtain⟨e,rfl⟩:=dV he;obtain⟨f,rfl⟩:=dV hf;exact⟨⟨a,b,c,d,e,f⟩,rfl⟩
theorem FE{r:List D}(h:Fits Hy r):∃x,r=ak x:=by
 obtain⟨a,_,rfl,ha,h⟩:=h.cons;obtain⟨b,_,rfl,hb,h⟩:=h.cons;obtain⟨c,_,rfl,hc,h⟩:=h.cons;obtain⟨d,_,rfl,hd,h⟩:=h.cons;obtain⟨e,_,rfl,he,h⟩:=h.cons;obtain rfl:=h.nil;obtain⟨a,rfl⟩:=mF ha;obtain⟨b,rfl⟩:=dV hb;obtain⟨c,rfl⟩:=dV hc;obtain⟨l,rfl⟩:=mM (λ_=>yy) hd;obtain⟨m,rfl⟩:=mM (λ_=>NC) he;exact⟨⟨⟨a,b,c,l⟩,m⟩,rfl⟩
end NP
namespace Go.Proofs.YtodofogcincleaaGreatDoor
open NQ NP Go.RowKit Go.WideShapes
theorem own:ownKnob Tryz.prog.godebug=none:=by kernel_rfl
theorem laidOut:laidOutB Tryz.prog=true:=by kernel_rfl
theorem QZ:Tryz.prog.globalNamed "nameplan/record.rules" =some 0:=by kernel_rfl
theorem IS{W:World}(h:laidMetH Tryz.prog [("nameplan/record.rules",Rows.laid_nameplan_record_rules)] W):iN cx W :=
 NO (cx:=cx) (t:=146) (g:=0) (f:=8) (cells:=va) (es:=(NQ.shape cx.ty 8 146).getD []) aV
  (λx cs hx=>by
   have hx:NQ.find IQ x=some cs:=hx;unfold IQ NQ.find at hx;split at hx
   . rename_i hb;cases hx;exact⟨(aO hb).symm,rfl⟩
   . cases hx) QZ (by kernel_rfl) (by kernel_rfl) (by kernel_rfl) (by kernel_rfl) (by kernel_rfl) h
theorem Ps{H:Type}{enc:TypeId×Value->H}{W:World}{r:Reach}{base:Nat}{v:Value}{d:DataW H}{ps:List MemPlace}(hv:Value.okWide Tryz.prog W r base 3 v)(h:DataW.Trod enc Tryz.prog W 0 (λ_=>true) true 3 v d ps) :
 ∃n,(Lit.int .i64 n).wf=true/\Rep W (λ_=>False) (.int .i64 n) v:=PW (cx:=cx) (f:=8) aV (by kernel_rfl) Tryz.underlying3 hv h
end Go.Proofs.YtodofogcincleaaGreatDoor
