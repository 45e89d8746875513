/-
  Zones, sets and questions out of what a statement reads; the package variable record.rules.
-/
import Derived.Test.YtjapjahfllomkaaGreatDoorAbM
import Derived.Test.YtjapjahfllomkaaGreatDoorKbM
import Derived.Test.YtjapjahfllomkaaGreatDoorMVa
import Derived.Test.YtjapjahfllomkaaGreatDoorRows
set_option linter.all false
set_option maxRecDepth 100000
namespace NP
open NQ Go
def Bx:List T:=[.str, .int .i64, .int .i64]
def Oc:List T:=[.str, .int .i64, .int .i64, .int .i64, .int .i64, .int .u64]
def E4:List T:=[.str, .int .i64, .int .i64, .slice Bx, .slice Oc]
theorem xk{r:List D}(h:Fits Bx r):∃x,r=cz x:=by
 obtain⟨a,_,rfl,ha,h⟩:=h.cons;obtain⟨b,_,rfl,hb,h⟩:=h.cons;obtain⟨c,_,rfl,hc,h⟩:=h.cons;obtain rfl:=h.nil;obtain⟨a,rfl⟩:=oI ha;obtain⟨b,rfl⟩:=fu hb;obtain⟨c,rfl⟩:=fu hc;exact⟨⟨a,b,c⟩,rfl⟩
theorem Kx{r:List D}(h:Fits Oc r):∃x,r=mu x:=by
 obtain⟨a,_,rfl,ha,h⟩:=h.cons;obtain⟨b,_,rfl,hb,h⟩:=h.cons;obtain⟨c,_,rfl,hc,h⟩:=h.cons;obtain⟨d,_,rfl,hd,h⟩:=h.cons;obtain⟨e,_,rfl,he,h⟩:=h.cons;obtain⟨f,_,rfl,hf,h⟩:=h.cons;obtain rfl:=h.nil;obtain⟨a,rfl⟩:=oI ha;obtain⟨b,rfl⟩:=fu hb;obtain⟨c,rfl⟩:=fu hc;obtain⟨d,rfl⟩:=fu hd;obtain⟨e,rfl⟩:=fu he;obtain⟨f,rfl⟩:=fu hf;exact⟨⟨a,b,c,d,e,f⟩,rfl⟩
theorem Dy{r:List D}(h:Fits E4 r):∃x,r=aw x:=by
 obtain⟨a,_,rfl,ha,h⟩:=h.cons;obtain⟨b,_,rfl,hb,h⟩:=h.cons;obtain⟨c,_,rfl,hc,h⟩:=h.cons;obtain⟨d,_,rfl,hd,h⟩:=h.cons;obtain⟨e,_,rfl,he,h⟩:=h.cons;obtain rfl:=h.nil;obtain⟨a,rfl⟩:=oI ha;obtain⟨b,rfl⟩:=fu hb;obtain⟨c,rfl⟩:=fu hc;obtain⟨l,rfl⟩:=mS (fun _=>xk) hd;obtain⟨m,rfl⟩:=mS (fun _=>Kx) he;exact⟨⟨⟨a,b,c,l⟩,m⟩,rfl⟩
end NP
namespace Go.Proofs.YtjapjahfllomkaaGreatDoor
open NQ NP Go.RowKit Go.WideShapes
theorem own:ownKnob Tryz.prog.godebug=none:=by kernel_rfl
theorem laidOut:laidOutB Tryz.prog=true:=by kernel_rfl
theorem Nv:Tryz.prog.globalNamed "nameplan/record.rules" =some 0:=by kernel_rfl
theorem FR{W:World}(h:laidMetH Tryz.prog [("nameplan/record.rules",Rows.laid_nameplan_record_rules)] W):fM cx W :=
 KI (cx:=cx) (t:=268) (g:=0) (f:=8) (cells:=tP) (es:=(NQ.shape cx.ty 8 268).getD []) bf
  (fun x cs hx=>by
   have hx:NQ.find FQ x=some cs:=hx;unfold FQ NQ.find at hx;split at hx
   . rename_i hb;cases hx;exact⟨(aZ hb).symm,rfl⟩
   . cases hx) Nv (by kernel_rfl) (by kernel_rfl) (by kernel_rfl) (by kernel_rfl) (by kernel_rfl) h
theorem Ot{H:Type}{enc:TypeId×Value->H}{W:World}{r:Reach}{base:Nat}{v:Value}{d:DataW H}{ps:List MemPlace}(hv:Value.okWide Tryz.prog W r base 9 v)(h:DataW.Trod enc Tryz.prog W 0 (fun _=>true) true 9 v d ps) :
 ∃s,Rep W (fun _=>False) (.str s) v:=arg_str (cx:=cx) (f:=8) bf (by kernel_rfl) Tryz.underlying9 hv h
end Go.Proofs.YtjapjahfllomkaaGreatDoor
