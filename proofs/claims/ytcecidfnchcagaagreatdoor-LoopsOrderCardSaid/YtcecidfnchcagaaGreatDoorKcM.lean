/-
  Zones, sets and questions out of what a statement reads; the package variable record.rules.
-/
import Derived.Test.YtcecidfnchcagaaGreatDoorKbM
import Derived.Test.YtcecidfnchcagaaGreatDoorMVa
import Derived.Test.YtcecidfnchcagaaGreatDoorRows
set_option linter.all false
set_option maxRecDepth 100000
namespace NP
open NQ Go
def AS:List T:=[.str, .int .i64, .int .i64]
def NB:List T:=[.str, .int .i64, .int .i64, .int .i64, .int .i64, .int .u64]
def Ez:List T:=[.str, .int .i64, .int .i64, .slice AS, .slice NB]
theorem wF{r:List D}(h:Fits AS r):∃x,r=bG x:=by
 obtain⟨a,_,rfl,ha,h⟩:=h.cons;obtain⟨b,_,rfl,hb,h⟩:=h.cons;obtain⟨c,_,rfl,hc,h⟩:=h.cons;obtain rfl:=h.nil;obtain⟨a,rfl⟩:=nE ha;obtain⟨b,rfl⟩:=eC hb;obtain⟨c,rfl⟩:=eC hc;exact⟨⟨a,b,c⟩,rfl⟩
theorem J3{r:List D}(h:Fits NB r):∃x,r=lC x:=by
 obtain⟨a,_,rfl,ha,h⟩:=h.cons;obtain⟨b,_,rfl,hb,h⟩:=h.cons;obtain⟨c,_,rfl,hc,h⟩:=h.cons;obtain⟨d,_,rfl,hd,h⟩:=h.cons;obtain⟨e,_,rfl,he,h⟩:=h.cons;obtain⟨f,_,rfl,hf,h⟩:=h.cons;obtain rfl:=h.nil;obtain⟨a,rfl⟩:=nE ha;obtain⟨b,rfl⟩:=eC hb;obtain⟨c,rfl⟩:=eC hc;obtain⟨d,rfl⟩:=eC hd;obtain⟨e,rfl⟩:=eC he;obtain⟨f,rfl⟩:=eC hf;exact⟨⟨a,b,c,d,e,f⟩,rfl⟩
theorem CS{r:List D}(h:Fits Ez r):∃x,r=ay x:=by
 obtain⟨a,_,rfl,ha,h⟩:=h.cons;obtain⟨b,_,rfl,hb,h⟩:=h.cons;obtain⟨c,_,rfl,hc,h⟩:=h.cons;obtain⟨d,_,rfl,hd,h⟩:=h.cons;obtain⟨e,_,rfl,he,h⟩:=h.cons;obtain rfl:=h.nil;obtain⟨a,rfl⟩:=nE ha;obtain⟨b,rfl⟩:=eC hb;obtain⟨c,rfl⟩:=eC hc;obtain⟨l,rfl⟩:=lX (fun _=>wF) hd;obtain⟨m,rfl⟩:=lX (fun _=>J3) he;exact⟨⟨⟨a,b,c,l⟩,m⟩,rfl⟩
end NP
namespace Go.Proofs.YtcecidfnchcagaaGreatDoor
open NQ NP Go.RowKit Go.WideShapes
theorem own:ownKnob Tryz.prog.godebug=none:=by kernel_rfl
theorem laidOut:laidOutB Tryz.prog=true:=by kernel_rfl
theorem ML:Tryz.prog.globalNamed "nameplan/record.rules" =some 0:=by kernel_rfl
theorem NY{W:World}(h:laidMetH Tryz.prog [("nameplan/record.rules",Rows.laid_nameplan_record_rules)] W):eY cx W :=
 Kd (cx:=cx) (t:=272) (g:=0) (f:=8) (cells:=xe) (es:=(NQ.shape cx.ty 8 272).getD []) aH
  (fun x cs hx=>by
   have hx:NQ.find Ft x=some cs:=hx;unfold Ft NQ.find at hx;split at hx
   . rename_i hb;cases hx;exact⟨(Nat.eq_of_beq_eq_true hb).symm,rfl⟩
   . cases hx) ML (by kernel_rfl) (by kernel_rfl) (by kernel_rfl) (by kernel_rfl) (by kernel_rfl) h
theorem OD{H:Type}{enc:TypeId×Value->H}{W:World}{r:Reach}{base:Nat}{v:Value}{d:DataW H}{ps:List MemPlace}(hv:Value.okWide Tryz.prog W r base 9 v)(h:DataW.Trod enc Tryz.prog W 0 (fun _=>true) true 9 v d ps) :
 ∃s,Rep W (fun _=>False) (.str s) v:=arg_str (cx:=cx) (f:=8) aH (by kernel_rfl) Tryz.underlying9 hv h
theorem OC{H:Type}{enc:TypeId×Value->H}{W:World}{r:Reach}{base:Nat}{v:Value}{d:DataW H}{ps:List MemPlace}(hv:Value.okWide Tryz.prog W r base 5 v)(h:DataW.Trod enc Tryz.prog W 0 (fun _=>true) true 5 v d ps) :
 ∃n,(Lit.int .u8 n).wf=true/\Rep W (fun _=>False) (.int .u8 n) v:=LR (cx:=cx) (f:=8) aH (by kernel_rfl) Tryz.underlying5 hv h
end Go.Proofs.YtcecidfnchcagaaGreatDoor
