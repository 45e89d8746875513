/-
  Merged texts.
-/
import Derived.Test.YtodofogcincleaaGreatDoorKbM
import Derived.Test.YtodofogcincleaaGreatDoorMVa
import Derived.Test.YtodofogcincleaaGreatDoorRows
set_option linter.all false
set_option maxRecDepth 100000
namespace Go.Proofs.YtodofogcincleaaGreatDoor
open NQ Go.RowKit
def Fe:List T:=[.str,.int .i64,.int .i64]
def UD:List T:=[.str,.int .i64,.int .i64,.int .i64,.int .i64,.int .u64]
def JQ:List T:=[.str,.int .i64,.int .i64,.slice Fe,.slice UD]
theorem Ai{r:List D}(h:Fits Fe r):∃x,r=aQ x:=by
 obtain⟨a,_,rfl,ha,h⟩:=h.cons;obtain⟨b,_,rfl,hb,h⟩:=h.cons;obtain⟨c,_,rfl,hc,h⟩:=h.cons;obtain rfl:=h.nil;obtain⟨a,rfl⟩:=nu ha;obtain⟨b,rfl⟩:=eU hb;obtain⟨c,rfl⟩:=eU hc;exact⟨⟨a,b,c⟩,rfl⟩
theorem PT{r:List D}(h:Fits UD r):∃x,r=gK x:=by
 obtain⟨a,_,rfl,ha,h⟩:=h.cons;obtain⟨b,_,rfl,hb,h⟩:=h.cons;obtain⟨c,_,rfl,hc,h⟩:=h.cons;obtain⟨d,_,rfl,hd,h⟩:=h.cons;obtain⟨e,_,rfl,he,h⟩:=h.cons;obtain⟨f,_,rfl,hf,h⟩:=h.cons;obtain rfl:=h.nil;obtain⟨a,rfl⟩:=nu ha;obtain⟨b,rfl⟩:=eU hb;obtain⟨c,rfl⟩:=eU hc;obtain⟨d,rfl⟩:=eU hd;obtain⟨e,rfl⟩:=eU he;obtain⟨f,rfl⟩:=eU hf;exact⟨⟨a,b,c,d,e,f⟩,rfl⟩
theorem Hy{r:List D}(h:Fits JQ r):∃x,r=aw x:=by
 obtain⟨a,_,rfl,ha,h⟩:=h.cons;obtain⟨b,_,rfl,hb,h⟩:=h.cons;obtain⟨c,_,rfl,hc,h⟩:=h.cons;obtain⟨d,_,rfl,hd,h⟩:=h.cons;obtain⟨e,_,rfl,he,h⟩:=h.cons;obtain rfl:=h.nil;obtain⟨a,rfl⟩:=nu ha;obtain⟨b,rfl⟩:=eU hb;obtain⟨c,rfl⟩:=eU hc;obtain⟨l,rfl⟩:=nC (λ_=>Ai) hd;obtain⟨m,rfl⟩:=nC (λ_=>PT) he;exact⟨⟨⟨a,b,c,l⟩,m⟩,rfl⟩
end Go.Proofs.YtodofogcincleaaGreatDoor
namespace Go.Proofs.YtodofogcincleaaGreatDoor
open NQ Go.RowKit Go.WideShapes
theorem own:ownKnob Tryz.prog.godebug=none:=by kernel_rfl
theorem laidOut:laidOutB Tryz.prog=true:=by kernel_rfl
theorem Tw:Tryz.prog.globalNamed "nameplan/record.rules" =some 0:=by kernel_rfl
theorem KN{W:World}(h:laidMetH Tryz.prog [("nameplan/record.rules",Rows.laid_nameplan_record_rules)] W):jC cx W :=
 Qe (cx:=cx) (t:=146) (g:=0) (f:=8) (cells:=wD) (es:=(NQ.shape cx.ty 8 146).getD []) bp
  (λx cs hx=>by
   have hx:NQ.find KM x=some cs:=hx;unfold KM NQ.find at hx;split at hx
   .rename_i hb;cases hx;exact⟨(bd hb).symm,rfl⟩
   .cases hx) Tw (by kernel_rfl) (by kernel_rfl) (by kernel_rfl) (by kernel_rfl) (by kernel_rfl) h
theorem DN{H:Type}{enc:TypeId×Value->H}{W:World}{r:Reach}{base:Nat}{v:Value}{d:DataW H}{ps:List MemPlace}(hv:Value.okWide Tryz.prog W r base 3 v)(h:DataW.Trod enc Tryz.prog W 0 (λ_=>true) true 3 v d ps) :
 ∃n,(Lit.int .i64 n).wf=true/\Rep W (λ_=>False) (.int .i64 n) v:=Sr (cx:=cx) (f:=8) bp (by kernel_rfl) Tryz.underlying3 hv h
end Go.Proofs.YtodofogcincleaaGreatDoor
