/-
  Merged texts.
-/
import Derived.Test.YtodofogcincleaaGreatDoorKbM
import Derived.Test.YtodofogcincleaaGreatDoorMVa
import Derived.Test.YtodofogcincleaaGreatDoorRows
set_option linter.all false
set_option maxRecDepth 100000
namespace Go.Proofs.YtodofogcincleaaGreatDoor
open NQ Go.RowKit
def Fb:List T:=[.str,.int .i64,.int .i64]
def Uw:List T:=[.str,.int .i64,.int .i64,.int .i64,.int .i64,.int .u64]
def JM:List T:=[.str,.int .i64,.int .i64,.slice Fb,.slice Uw]
theorem Af{r:List D}(h:Fits Fb r):∃x,r=aQ x:=by
 obtain⟨a,_,rfl,ha,h⟩:=h.cons;obtain⟨b,_,rfl,hb,h⟩:=h.cons;obtain⟨c,_,rfl,hc,h⟩:=h.cons;obtain rfl:=h.nil;obtain⟨a,rfl⟩:=nq ha;obtain⟨b,rfl⟩:=eT hb;obtain⟨c,rfl⟩:=eT hc;exact⟨⟨a,b,c⟩,rfl⟩
theorem PO{r:List D}(h:Fits Uw r):∃x,r=gK x:=by
 obtain⟨a,_,rfl,ha,h⟩:=h.cons;obtain⟨b,_,rfl,hb,h⟩:=h.cons;obtain⟨c,_,rfl,hc,h⟩:=h.cons;obtain⟨d,_,rfl,hd,h⟩:=h.cons;obtain⟨e,_,rfl,he,h⟩:=h.cons;obtain⟨f,_,rfl,hf,h⟩:=h.cons;obtain rfl:=h.nil;obtain⟨a,rfl⟩:=nq ha;obtain⟨b,rfl⟩:=eT hb;obtain⟨c,rfl⟩:=eT hc;obtain⟨d,rfl⟩:=eT hd;obtain⟨e,rfl⟩:=eT he;obtain⟨f,rfl⟩:=eT hf;exact⟨⟨a,b,c,d,e,f⟩,rfl⟩
theorem Hu{r:List D}(h:Fits JM r):∃x,r=aw x:=by
 obtain⟨a,_,rfl,ha,h⟩:=h.cons;obtain⟨b,_,rfl,hb,h⟩:=h.cons;obtain⟨c,_,rfl,hc,h⟩:=h.cons;obtain⟨d,_,rfl,hd,h⟩:=h.cons;obtain⟨e,_,rfl,he,h⟩:=h.cons;obtain rfl:=h.nil;obtain⟨a,rfl⟩:=nq ha;obtain⟨b,rfl⟩:=eT hb;obtain⟨c,rfl⟩:=eT hc;obtain⟨l,rfl⟩:=nA (λ_=>Af) hd;obtain⟨m,rfl⟩:=nA (λ_=>PO) he;exact⟨⟨⟨a,b,c,l⟩,m⟩,rfl⟩
end Go.Proofs.YtodofogcincleaaGreatDoor
namespace Go.Proofs.YtodofogcincleaaGreatDoor
open NQ Go.RowKit Go.WideShapes
theorem own:ownKnob Tryz.prog.godebug=none:=by kernel_rfl
theorem laidOut:laidOutB Tryz.prog=true:=by kernel_rfl
theorem To:Tryz.prog.globalNamed "nameplan/record.rules" =some 0:=by kernel_rfl
theorem KI{W:World}(h:laidMetH Tryz.prog [("nameplan/record.rules",Rows.laid_nameplan_record_rules)] W):jC cx W :=
 PY (cx:=cx) (t:=146) (g:=0) (f:=8) (cells:=wB) (es:=(NQ.shape cx.ty 8 146).getD []) bo
  (λx cs hx=>by
   have hx:NQ.find KH x=some cs:=hx;unfold KH NQ.find at hx;split at hx
   .rename_i hb;cases hx;exact⟨(bd hb).symm,rfl⟩
   .cases hx) To (by kernel_rfl) (by kernel_rfl) (by kernel_rfl) (by kernel_rfl) (by kernel_rfl) h
theorem DL{H:Type}{enc:TypeId×Value->H}{W:World}{r:Reach}{base:Nat}{v:Value}{d:DataW H}{ps:List MemPlace}(hv:Value.okWide Tryz.prog W r base 3 v)(h:DataW.Trod enc Tryz.prog W 0 (λ_=>true) true 3 v d ps) :
 ∃n,(Lit.int .i64 n).wf=true/\Rep W (λ_=>False) (.int .i64 n) v:=Si (cx:=cx) (f:=8) bo (by kernel_rfl) Tryz.underlying3 hv h
end Go.Proofs.YtodofogcincleaaGreatDoor
