/-
  Zones, sets and questions out of what a statement reads; the package variable record.rules.
-/
import Derived.Test.YtcecidfnchcagaaGreatDoorAbM
import Derived.Test.YtcecidfnchcagaaGreatDoorKbM
import Derived.Test.YtcecidfnchcagaaGreatDoorMVa
import Derived.Test.YtcecidfnchcagaaGreatDoorRows
set_option linter.all false
set_option maxRecDepth 100000
namespace NP
open NQ Go
def A2:List T:=[.str, .int .i64, .int .i64]
def Nc:List T:=[.str, .int .i64, .int .i64, .int .i64, .int .i64, .int .u64]
def Er:List T:=[.str, .int .i64, .int .i64, .slice A2, .slice Nc]
theorem wI{r:List D}(h:Fits A2 r):∃x,r=b5 x:=by
 obtain⟨a,_,rfl,ha,h⟩:=h.cons;obtain⟨b,_,rfl,hb,h⟩:=h.cons;obtain⟨c,_,rfl,hc,h⟩:=h.cons;obtain rfl:=h.nil;obtain⟨a,rfl⟩:=oh ha;obtain⟨b,rfl⟩:=fh hb;obtain⟨c,rfl⟩:=fh hc;exact⟨⟨a,b,c⟩,rfl⟩
theorem JN{r:List D}(h:Fits Nc r):∃x,r=lY x:=by
 obtain⟨a,_,rfl,ha,h⟩:=h.cons;obtain⟨b,_,rfl,hb,h⟩:=h.cons;obtain⟨c,_,rfl,hc,h⟩:=h.cons;obtain⟨d,_,rfl,hd,h⟩:=h.cons;obtain⟨e,_,rfl,he,h⟩:=h.cons;obtain⟨f,_,rfl,hf,h⟩:=h.cons;obtain rfl:=h.nil;obtain⟨a,rfl⟩:=oh ha;obtain⟨b,rfl⟩:=fh hb;obtain⟨c,rfl⟩:=fh hc;obtain⟨d,rfl⟩:=fh hd;obtain⟨e,rfl⟩:=fh he;obtain⟨f,rfl⟩:=fh hf;exact⟨⟨a,b,c,d,e,f⟩,rfl⟩
theorem CT{r:List D}(h:Fits Er r):∃x,r=au x:=by
 obtain⟨a,_,rfl,ha,h⟩:=h.cons;obtain⟨b,_,rfl,hb,h⟩:=h.cons;obtain⟨c,_,rfl,hc,h⟩:=h.cons;obtain⟨d,_,rfl,hd,h⟩:=h.cons;obtain⟨e,_,rfl,he,h⟩:=h.cons;obtain rfl:=h.nil;obtain⟨a,rfl⟩:=oh ha;obtain⟨b,rfl⟩:=fh hb;obtain⟨c,rfl⟩:=fh hc;obtain⟨l,rfl⟩:=mA (fun _=>wI) hd;obtain⟨m,rfl⟩:=mA (fun _=>JN) he;exact⟨⟨⟨a,b,c,l⟩,m⟩,rfl⟩
end NP
namespace Go.Proofs.YtcecidfnchcagaaGreatDoor
open NQ NP Go.RowKit Go.WideShapes
theorem own:ownKnob Tryz.prog.godebug=none:=by kernel_rfl
theorem laidOut:laidOutB Tryz.prog=true:=by kernel_rfl
theorem Mx:Tryz.prog.globalNamed "nameplan/record.rules" =some 0:=by kernel_rfl
theorem Fj{W:World}(h:laidMetH Tryz.prog [("nameplan/record.rules",Rows.laid_nameplan_record_rules)] W):fH cx W :=
 JX (cx:=cx) (t:=272) (g:=0) (f:=8) (cells:=s6) (es:=(NQ.shape cx.ty 8 272).getD []) bf
  (fun x cs hx=>by
   have hx:NQ.find Fi x=some cs:=hx;unfold Fi NQ.find at hx;split at hx
   . rename_i hb;cases hx;exact⟨(bd hb).symm,rfl⟩
   . cases hx) Mx (by kernel_rfl) (by kernel_rfl) (by kernel_rfl) (by kernel_rfl) (by kernel_rfl) h
theorem Ns{H:Type}{enc:TypeId×Value->H}{W:World}{r:Reach}{base:Nat}{v:Value}{d:DataW H}{ps:List MemPlace}(hv:Value.okWide Tryz.prog W r base 9 v)(h:DataW.Trod enc Tryz.prog W 0 (fun _=>true) true 9 v d ps) :
 ∃s,Rep W (fun _=>False) (.str s) v:=arg_str (cx:=cx) (f:=8) bf (by kernel_rfl) Tryz.underlying9 hv h
end Go.Proofs.YtcecidfnchcagaaGreatDoor
