/-
  One text.
-/
import Derived.Test.YtjapjahfllomkaaGreatDoorKbM
import Derived.Test.YtjapjahfllomkaaGreatDoorMVa
import Derived.Test.YtjapjahfllomkaaGreatDoorRows
set_option linter.all false
set_option maxRecDepth 100000
namespace NP
open NQ Go
def CB:List T:=[.str,.int .i64,.int .i64]
def PQ:List T:=[.str,.int .i64,.int .i64,.int .i64,.int .i64,.int .u64]
def Ga:List T:=[.str,.int .i64,.int .i64,.slice CB,.slice PQ]
theorem ym{r:List D}(h:Fits CB r):∃x,r=bd x:=by
 obtain⟨a,_,rfl,ha,h⟩:=h.cons;obtain⟨b,_,rfl,hb,h⟩:=h.cons;obtain⟨c,_,rfl,hc,h⟩:=h.cons;obtain rfl:=h.nil;obtain⟨a,rfl⟩:=pA ha;obtain⟨b,rfl⟩:=fR hb;obtain⟨c,rfl⟩:=fR hc;exact⟨⟨a,b,c⟩,rfl⟩
theorem LG{r:List D}(h:Fits PQ r):∃x,r=mQ x:=by
 obtain⟨a,_,rfl,ha,h⟩:=h.cons;obtain⟨b,_,rfl,hb,h⟩:=h.cons;obtain⟨c,_,rfl,hc,h⟩:=h.cons;obtain⟨d,_,rfl,hd,h⟩:=h.cons;obtain⟨e,_,rfl,he,h⟩:=h.cons;obtain⟨f,_,rfl,hf,h⟩:=h.cons;obtain rfl:=h.nil;obtain⟨a,rfl⟩:=pA ha;obtain⟨b,rfl⟩:=fR hb;obtain⟨c,rfl⟩:=fR hc;obtain⟨d,rfl⟩:=fR hd;obtain⟨e,rfl⟩:=fR he;obtain⟨f,rfl⟩:=fR hf;exact⟨⟨a,b,c,d,e,f⟩,rfl⟩
theorem ED{r:List D}(h:Fits Ga r):∃x,r=an x:=by
 obtain⟨a,_,rfl,ha,h⟩:=h.cons;obtain⟨b,_,rfl,hb,h⟩:=h.cons;obtain⟨c,_,rfl,hc,h⟩:=h.cons;obtain⟨d,_,rfl,hd,h⟩:=h.cons;obtain⟨e,_,rfl,he,h⟩:=h.cons;obtain rfl:=h.nil;obtain⟨a,rfl⟩:=pA ha;obtain⟨b,rfl⟩:=fR hb;obtain⟨c,rfl⟩:=fR hc;obtain⟨l,rfl⟩:=nC (λ_=>ym) hd;obtain⟨m,rfl⟩:=nC (λ_=>LG) he;exact⟨⟨⟨a,b,c,l⟩,m⟩,rfl⟩
end NP
namespace Go.Proofs.YtjapjahfllomkaaGreatDoor
open NQ NP Go.RowKit Go.WideShapes
theorem own:ownKnob Tryz.prog.godebug=none:=by kernel_rfl
theorem laidOut:laidOutB Tryz.prog=true:=by kernel_rfl
theorem OP:Tryz.prog.globalNamed "nameplan/record.rules" =some 0:=by kernel_rfl
theorem G3{W:World}(h:laidMetH Tryz.prog [("nameplan/record.rules",Rows.laid_nameplan_record_rules)] W):gu cx W :=
 LR (cx:=cx) (t:=268) (g:=0) (f:=8) (cells:=u7) (es:=(NQ.shape cx.ty 8 268).getD []) aP
  (λx cs hx=>by
   have hx:NQ.find G2 x=some cs:=hx;unfold G2 NQ.find at hx;split at hx
   . rename_i hb;cases hx;exact⟨(aR hb).symm,rfl⟩
   . cases hx) OP (by kernel_rfl) (by kernel_rfl) (by kernel_rfl) (by kernel_rfl) (by kernel_rfl) h
theorem P1{H:Type}{enc:TypeId×Value->H}{W:World}{r:Reach}{base:Nat}{v:Value}{d:DataW H}{ps:List MemPlace}(hv:Value.okWide Tryz.prog W r base 9 v)(h:DataW.Trod enc Tryz.prog W 0 (λ_=>true) true 9 v d ps) :
 ∃s,Rep W (λ_=>False) (.str s) v:=arg_str (cx:=cx) (f:=8) aP (by kernel_rfl) Tryz.underlying9 hv h
end Go.Proofs.YtjapjahfllomkaaGreatDoor
