/-
  Zones, sets and questions out of what a statement reads; the package variable record.rules.
-/
import Derived.Test.YtjapjahfllomkaaGreatDoorAbM
import Derived.Test.YtjapjahfllomkaaGreatDoorKbM
import Derived.Test.YtjapjahfllomkaaGreatDoorMVa
import Derived.Test.YtjapjahfllomkaaGreatDoorRows
set_option linter.all false
set_option maxRecDepth 100000
namespace NP
open NQ Go
def Bv:List T:=[.str, .int .i64, .int .i64]
def Om:List T:=[.str, .int .i64, .int .i64, .int .i64, .int .i64, .int .u64]
def E8:List T:=[.str, .int .i64, .int .i64, .slice Bv, .slice Om]
theorem xm{r:List D}(h:Fits Bv r):∃x,r=cB x:=by
 obtain⟨a,_,rfl,ha,h⟩:=h.cons;obtain⟨b,_,rfl,hb,h⟩:=h.cons;obtain⟨c,_,rfl,hc,h⟩:=h.cons;obtain rfl:=h.nil;obtain⟨a,rfl⟩:=oO ha;obtain⟨b,rfl⟩:=fq hb;obtain⟨c,rfl⟩:=fq hc;exact⟨⟨a,b,c⟩,rfl⟩
theorem KC{r:List D}(h:Fits Om r):∃x,r=mB x:=by
 obtain⟨a,_,rfl,ha,h⟩:=h.cons;obtain⟨b,_,rfl,hb,h⟩:=h.cons;obtain⟨c,_,rfl,hc,h⟩:=h.cons;obtain⟨d,_,rfl,hd,h⟩:=h.cons;obtain⟨e,_,rfl,he,h⟩:=h.cons;obtain⟨f,_,rfl,hf,h⟩:=h.cons;obtain rfl:=h.nil;obtain⟨a,rfl⟩:=oO ha;obtain⟨b,rfl⟩:=fq hb;obtain⟨c,rfl⟩:=fq hc;obtain⟨d,rfl⟩:=fq hd;obtain⟨e,rfl⟩:=fq he;obtain⟨f,rfl⟩:=fq hf;exact⟨⟨a,b,c,d,e,f⟩,rfl⟩
theorem Dv{r:List D}(h:Fits E8 r):∃x,r=ay x:=by
 obtain⟨a,_,rfl,ha,h⟩:=h.cons;obtain⟨b,_,rfl,hb,h⟩:=h.cons;obtain⟨c,_,rfl,hc,h⟩:=h.cons;obtain⟨d,_,rfl,hd,h⟩:=h.cons;obtain⟨e,_,rfl,he,h⟩:=h.cons;obtain rfl:=h.nil;obtain⟨a,rfl⟩:=oO ha;obtain⟨b,rfl⟩:=fq hb;obtain⟨c,rfl⟩:=fq hc;obtain⟨l,rfl⟩:=mZ (fun _=>xm) hd;obtain⟨m,rfl⟩:=mZ (fun _=>KC) he;exact⟨⟨⟨a,b,c,l⟩,m⟩,rfl⟩
end NP
namespace Go.Proofs.YtjapjahfllomkaaGreatDoor
open NQ NP Go.RowKit Go.WideShapes
theorem own:ownKnob Tryz.prog.godebug=none:=by kernel_rfl
theorem laidOut:laidOutB Tryz.prog=true:=by kernel_rfl
theorem Nz:Tryz.prog.globalNamed "nameplan/record.rules" =some 0:=by kernel_rfl
theorem FX{W:World}(h:laidMetH Tryz.prog [("nameplan/record.rules",Rows.laid_nameplan_record_rules)] W):fP cx W :=
 KN (cx:=cx) (t:=268) (g:=0) (f:=8) (cells:=tR) (es:=(NQ.shape cx.ty 8 268).getD []) bf
  (fun x cs hx=>by
   have hx:NQ.find FW x=some cs:=hx;unfold FW NQ.find at hx;split at hx
   . rename_i hb;cases hx;exact⟨(ba hb).symm,rfl⟩
   . cases hx) Nz (by kernel_rfl) (by kernel_rfl) (by kernel_rfl) (by kernel_rfl) (by kernel_rfl) h
end Go.Proofs.YtjapjahfllomkaaGreatDoor
