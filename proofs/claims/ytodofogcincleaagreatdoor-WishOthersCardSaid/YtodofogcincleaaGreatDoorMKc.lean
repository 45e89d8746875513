/-
  Merged texts.
-/
import Derived.Test.YtodofogcincleaaGreatDoorKbM
import Derived.Test.YtodofogcincleaaGreatDoorMVa
import Derived.Test.YtodofogcincleaaGreatDoorRows
set_option linter.all false
set_option maxRecDepth 100000
namespace NP
open NQ Go
def CR:List T:=[.str,.int .i64,.int .i64]
def RF:List T:=[.str,.int .i64,.int .i64,.int .i64,.int .i64,.int .u64]
def GN:List T:=[.str,.int .i64,.int .i64,.slice CR,.slice RF]
theorem xX{r:List D}(h:Fits CR r):∃x,r=aG x:=by
 obtain⟨a,_,rfl,ha,h⟩:=h.cons;obtain⟨b,_,rfl,hb,h⟩:=h.cons;obtain⟨c,_,rfl,hc,h⟩:=h.cons;obtain rfl:=h.nil;obtain⟨a,rfl⟩:=lT ha;obtain⟨b,rfl⟩:=dN hb;obtain⟨c,rfl⟩:=dN hc;exact⟨⟨a,b,c⟩,rfl⟩
theorem MU{r:List D}(h:Fits RF r):∃x,r=mE x:=by
 obtain⟨a,_,rfl,ha,h⟩:=h.cons;obtain⟨b,_,rfl,hb,h⟩:=h.cons;obtain⟨c,_,rfl,hc,h⟩:=h.cons;obtain⟨d,_,rfl,hd,h⟩:=h.cons;obtain⟨e,_,rfl,he,h⟩:=h.cons;obtain⟨f,_,rfl,hf,h⟩:=h.cons;obtain rfl:=h.nil;obtain⟨a,rfl⟩:=lT ha;obtain⟨b,rfl⟩:=dN hb;obtain⟨c,rfl⟩:=dN hc;obtain⟨d,rfl⟩:=dN hd;obtain⟨e,rfl⟩:=dN he;obtain⟨f,rfl⟩:=dN hf;exact⟨⟨a,b,c,d,e,f⟩,rfl⟩
theorem EZ{r:List D}(h:Fits GN r):∃x,r=ak x:=by
 obtain⟨a,_,rfl,ha,h⟩:=h.cons;obtain⟨b,_,rfl,hb,h⟩:=h.cons;obtain⟨c,_,rfl,hc,h⟩:=h.cons;obtain⟨d,_,rfl,hd,h⟩:=h.cons;obtain⟨e,_,rfl,he,h⟩:=h.cons;obtain rfl:=h.nil;obtain⟨a,rfl⟩:=lT ha;obtain⟨b,rfl⟩:=dN hb;obtain⟨c,rfl⟩:=dN hc;obtain⟨l,rfl⟩:=mc (λ_=>xX) hd;obtain⟨m,rfl⟩:=mc (λ_=>MU) he;exact⟨⟨⟨a,b,c,l⟩,m⟩,rfl⟩
end NP
namespace Go.Proofs.YtodofogcincleaaGreatDoor
open NQ NP Go.RowKit Go.WideShapes
theorem own:ownKnob Tryz.prog.godebug=none:=by kernel_rfl
theorem laidOut:laidOutB Tryz.prog=true:=by kernel_rfl
theorem Qx:Tryz.prog.globalNamed "nameplan/record.rules" =some 0:=by kernel_rfl
theorem Ib{W:World}(h:laidMetH Tryz.prog [("nameplan/record.rules",Rows.laid_nameplan_record_rules)] W):ix cx W :=
 Ng (cx:=cx) (t:=146) (g:=0) (f:=8) (cells:=uz) (es:=(NQ.shape cx.ty 8 146).getD []) aV
  (λx cs hx=>by
   have hx:NQ.find Ia x=some cs:=hx;unfold Ia NQ.find at hx;split at hx
   . rename_i hb;cases hx;exact⟨(aN hb).symm,rfl⟩
   . cases hx) Qx (by kernel_rfl) (by kernel_rfl) (by kernel_rfl) (by kernel_rfl) (by kernel_rfl) h
theorem OM{H:Type}{enc:TypeId×Value->H}{W:World}{r:Reach}{base:Nat}{v:Value}{d:DataW H}{ps:List MemPlace}(hv:Value.okWide Tryz.prog W r base 3 v)(h:DataW.Trod enc Tryz.prog W 0 (λ_=>true) true 3 v d ps) :
 ∃n,(Lit.int .i64 n).wf=true/\Rep W (λ_=>False) (.int .i64 n) v:=Ps (cx:=cx) (f:=8) aV (by kernel_rfl) Tryz.underlying3 hv h
end Go.Proofs.YtodofogcincleaaGreatDoor
