/-
  One text.
-/
import Derived.Test.YtjapjahfllomkaaGreatDoorKbM
import Derived.Test.YtjapjahfllomkaaGreatDoorMVa
import Derived.Test.YtjapjahfllomkaaGreatDoorRows
set_option linter.all false
set_option maxRecDepth 100000
namespace NP
open NQ Go
def Ee:List T:=[.str,.int .i64,.int .i64]
def TH:List T:=[.str,.int .i64,.int .i64,.int .i64,.int .i64,.int .u64]
def IQ:List T:=[.str,.int .i64,.int .i64,.slice Ee,.slice TH]
theorem zJ{r:List D}(h:Fits Ee r):∃x,r=bt x:=by
 obtain⟨a,_,rfl,ha,h⟩:=h.cons;obtain⟨b,_,rfl,hb,h⟩:=h.cons;obtain⟨c,_,rfl,hc,h⟩:=h.cons;obtain rfl:=h.nil;obtain⟨a,rfl⟩:=pD ha;obtain⟨b,rfl⟩:=fH hb;obtain⟨c,rfl⟩:=fH hc;exact⟨⟨a,b,c⟩,rfl⟩
theorem OZ{r:List D}(h:Fits TH r):∃x,r=mY x:=by
 obtain⟨a,_,rfl,ha,h⟩:=h.cons;obtain⟨b,_,rfl,hb,h⟩:=h.cons;obtain⟨c,_,rfl,hc,h⟩:=h.cons;obtain⟨d,_,rfl,hd,h⟩:=h.cons;obtain⟨e,_,rfl,he,h⟩:=h.cons;obtain⟨f,_,rfl,hf,h⟩:=h.cons;obtain rfl:=h.nil;obtain⟨a,rfl⟩:=pD ha;obtain⟨b,rfl⟩:=fH hb;obtain⟨c,rfl⟩:=fH hc;obtain⟨d,rfl⟩:=fH hd;obtain⟨e,rfl⟩:=fH he;obtain⟨f,rfl⟩:=fH hf;exact⟨⟨a,b,c,d,e,f⟩,rfl⟩
theorem GC{r:List D}(h:Fits IQ r):∃x,r=az x:=by
 obtain⟨a,_,rfl,ha,h⟩:=h.cons;obtain⟨b,_,rfl,hb,h⟩:=h.cons;obtain⟨c,_,rfl,hc,h⟩:=h.cons;obtain⟨d,_,rfl,hd,h⟩:=h.cons;obtain⟨e,_,rfl,he,h⟩:=h.cons;obtain rfl:=h.nil;obtain⟨a,rfl⟩:=pD ha;obtain⟨b,rfl⟩:=fH hb;obtain⟨c,rfl⟩:=fH hc;obtain⟨l,rfl⟩:=nG (λ_=>zJ) hd;obtain⟨m,rfl⟩:=nG (λ_=>OZ) he;exact⟨⟨⟨a,b,c,l⟩,m⟩,rfl⟩
end NP
namespace Go.Proofs.YtjapjahfllomkaaGreatDoor
open NQ NP Go.RowKit Go.WideShapes
theorem own:ownKnob Tryz.prog.godebug=none:=by kernel_rfl
theorem laidOut:laidOutB Tryz.prog=true:=by kernel_rfl
theorem Su:Tryz.prog.globalNamed "nameplan/record.rules" =some 0:=by kernel_rfl
theorem Ua{W:World}(h:laidMetH Tryz.prog [("nameplan/record.rules",Rows.laid_nameplan_record_rules)] W):gF cx W :=
 Pq (cx:=cx) (t:=268) (g:=0) (f:=8) (cells:=Aj) (es:=(NQ.shape cx.ty 8 268).getD []) aO
  (λx cs hx=>by
   have hx:NQ.find JN x=some cs:=hx;unfold JN NQ.find at hx;split at hx
   . rename_i hb;cases hx;exact⟨(aS hb).symm,rfl⟩
   . cases hx) Su (by kernel_rfl) (by kernel_rfl) (by kernel_rfl) (by kernel_rfl) (by kernel_rfl) h
theorem UF{H:Type}{enc:TypeId×Value->H}{W:World}{r:Reach}{base:Nat}{v:Value}{d:DataW H}{ps:List MemPlace}(hv:Value.okWide Tryz.prog W r base 5 v)(h:DataW.Trod enc Tryz.prog W 0 (λ_=>true) true 5 v d ps) :
 ∃n,(Lit.int .u8 n).wf=true/\Rep W (λ_=>False) (.int .u8 n) v:=Rl (cx:=cx) (f:=8) aO (by kernel_rfl) Tryz.underlying5 hv h
end Go.Proofs.YtjapjahfllomkaaGreatDoor
