/-
  One text.
-/
import Derived.Test.YtmaepddmaghpjaaGreatDoorKbM
import Derived.Test.YtmaepddmaghpjaaGreatDoorMVa
import Derived.Test.YtmaepddmaghpjaaGreatDoorRows
set_option linter.all false
set_option maxRecDepth 100000
namespace NP
open NQ Go
def Dn:List T:=[.str,.int .i64,.int .i64]
def SL:List T:=[.str,.int .i64,.int .i64,.int .i64,.int .i64,.int .u64]
def Ht:List T:=[.str,.int .i64,.int .i64,.slice Dn,.slice SL]
theorem yM{r:List D}(h:Fits Dn r):∃x,r=bz x:=by
 obtain⟨a,_,rfl,ha,h⟩:=h.cons;obtain⟨b,_,rfl,hb,h⟩:=h.cons;obtain⟨c,_,rfl,hc,h⟩:=h.cons;obtain rfl:=h.nil;obtain⟨a,rfl⟩:=pc ha;obtain⟨b,rfl⟩:=fy hb;obtain⟨c,rfl⟩:=fy hc;exact⟨⟨a,b,c⟩,rfl⟩
theorem Oh{r:List D}(h:Fits SL r):∃x,r=mI x:=by
 obtain⟨a,_,rfl,ha,h⟩:=h.cons;obtain⟨b,_,rfl,hb,h⟩:=h.cons;obtain⟨c,_,rfl,hc,h⟩:=h.cons;obtain⟨d,_,rfl,hd,h⟩:=h.cons;obtain⟨e,_,rfl,he,h⟩:=h.cons;obtain⟨f,_,rfl,hf,h⟩:=h.cons;obtain rfl:=h.nil;obtain⟨a,rfl⟩:=pc ha;obtain⟨b,rfl⟩:=fy hb;obtain⟨c,rfl⟩:=fy hc;obtain⟨d,rfl⟩:=fy hd;obtain⟨e,rfl⟩:=fy he;obtain⟨f,rfl⟩:=fy hf;exact⟨⟨a,b,c,d,e,f⟩,rfl⟩
theorem FK{r:List D}(h:Fits Ht r):∃x,r=ax x:=by
 obtain⟨a,_,rfl,ha,h⟩:=h.cons;obtain⟨b,_,rfl,hb,h⟩:=h.cons;obtain⟨c,_,rfl,hc,h⟩:=h.cons;obtain⟨d,_,rfl,hd,h⟩:=h.cons;obtain⟨e,_,rfl,he,h⟩:=h.cons;obtain rfl:=h.nil;obtain⟨a,rfl⟩:=pc ha;obtain⟨b,rfl⟩:=fy hb;obtain⟨c,rfl⟩:=fy hc;obtain⟨l,rfl⟩:=nj (λ_=>yM) hd;obtain⟨m,rfl⟩:=nj (λ_=>Oh) he;exact⟨⟨⟨a,b,c,l⟩,m⟩,rfl⟩
end NP
namespace Go.Proofs.YtmaepddmaghpjaaGreatDoor
open NQ NP Go.RowKit Go.WideShapes
theorem own:ownKnob Tryz.prog.godebug=none:=by kernel_rfl
theorem laidOut:laidOutB Tryz.prog=true:=by kernel_rfl
theorem RD:Tryz.prog.globalNamed "nameplan/record.rules" =some 0:=by kernel_rfl
theorem IT{W:World}(h:laidMetH Tryz.prog [("nameplan/record.rules",Rows.laid_nameplan_record_rules)] W):gu cx W :=
 Oy (cx:=cx) (t:=203) (g:=0) (f:=8) (cells:=vj) (es:=(NQ.shape cx.ty 8 203).getD []) aO
  (λx cs hx=>by
   have hx:NQ.find IS x=some cs:=hx;unfold IS NQ.find at hx;split at hx
   . rename_i hb;cases hx;exact⟨(aP hb).symm,rfl⟩
   . cases hx) RD (by kernel_rfl) (by kernel_rfl) (by kernel_rfl) (by kernel_rfl) (by kernel_rfl) h
theorem RV{H:Type}{enc:TypeId×Value->H}{W:World}{r:Reach}{base:Nat}{v:Value}{d:DataW H}{ps:List MemPlace}(hv:Value.okWide Tryz.prog W r base 5 v)(h:DataW.Trod enc Tryz.prog W 0 (λ_=>true) true 5 v d ps) :
 ∃n,(Lit.int .u8 n).wf=true/\Rep W (λ_=>False) (.int .u8 n) v:=Qw (cx:=cx) (f:=8) aO (by kernel_rfl) Tryz.underlying5 hv h
end Go.Proofs.YtmaepddmaghpjaaGreatDoor
