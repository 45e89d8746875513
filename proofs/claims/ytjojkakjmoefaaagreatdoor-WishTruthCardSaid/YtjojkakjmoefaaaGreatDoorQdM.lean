/-
  One text.
-/
import Derived.Test.YtjojkakjmoefaaaGreatDoorMQa
import Derived.Laws.Sem
import Derived.Lib.Strings
set_option linter.all false

namespace NQ
open Go Go.RowKit
def Jb(v:AV)(n:Nat):Option AV :=
 match v with
 | .ptr s off=>some<|.ptr s<|off+n
 | .dy s size i off=>some<|.dy s size i<|off+n
 | .d (.ptr cells)=>some<|.d<|.ptr<|cells.drop n
 |_=>none
def xc(k:IntKind)(x y:Int):Int:=k.wrap ((BitVec.ofInt k.bits x &&& BitVec.ofInt k.bits y).toNat:Nat)
def bOr(k:IntKind)(x y:Int):Int:=k.wrap ((BitVec.ofInt k.bits x ||| BitVec.ofInt k.bits y).toNat:Nat)
def qJ(k:IntKind)(x y:Int):Int:=k.wrap ((BitVec.ofInt k.bits x &&& ~~~ BitVec.ofInt k.bits y).toNat:Nat)
def VT(k:IntKind)(x y:Int):Int:=k.wrap ((BitVec.ofInt k.bits x ^^^ BitVec.ofInt k.bits y).toNat:Nat)
def oL(op:BinOp)(k:IntKind)(a b:Int):Option D :=
 match op with
 | .add=>some<|.int k<|k.wrap<|a+b
 | .sub=>some<|.int k<|k.wrap<|a-b
 | .mul=>some<|.int k<|k.wrap<|a*b
 | .eql=>some<|.bool<|a==b
 | .neq=>some<|.bool<|a != b
 | .lss=>some<|.bool<|decide<|a<b
 | .leq=>some<|.bool<|decide<|a<=b
 | .gtr=>some<|.bool<|decide<|a>b
 | .geq=>some<|.bool<|decide<|a>=b
 | .and=>some<|.int k<|xc k a b
 | .or=>some<|.int k<|bOr k a b
 | .andNot=>some<|.int k<|qJ k a b
 | .xor=>some<|.int k<|VT k a b
 | .rem=>match decide (b=0)with|true=>none|false=>some<|.int k<|a.tmod b
 | .quo=>match decide (b=0)with|true=>none|false=>some<|.int k<|k.wrap<|a.tdiv b
 |_=>none
def SY(op:BinOp)(a b:List UInt8):Option D :=
 match op with
 | .eql=>some<|.bool<|a==b
 | .neq=>some<|.bool (!(a==b))
 | .lss=>some<|.bool<|Op.bytesLess a b
 | .leq=>some<|.bool<|Op.bytesLess a b||a==b
 | .gtr=>some<|.bool (!(Op.bytesLess a b||a==b))
 | .geq=>some<|.bool (!(Op.bytesLess a b))
 |_=>none
def xe(op:BinOp)(k:IntKind)(a b:Int):Option D :=
 match decide (b<0),op with
 |false,.shl=>some<|.int k<|k.wrap<|a*2 ^ (min b.toNat k.bits)
 |false,.shr=>some<|.int k<|a.fdiv<|2 ^ (min b.toNat k.bits)
 |_,_=>none
def ZS:BinOp->Bool
 | .shl| .shr=>true
 |_=>false
def KF(a b:IntKind):Bool:=decide<|a=b
def VV(op:BinOp)(x y:AV):Option AV :=
 match x,y with
 | .d (.int k a),.d (.int j b)=>(match ZS op with
  |true=>(match xe op k a b with|some r=>some<|.d r|none=>none)
  |false=>(match KF k j with|true=>(match oL op k a b with|some r=>some<|.d r|none=>none)|false=>none))
 | .d (.str a),.d (.str b)=>match SY op a b with|some r=>some<|.d r|none=>none
 |_,_=>none
def unA(op:UnOp)(x:AV):Option AV :=
 match op,x with
 | .not,.d (.bool b)=>some<|.d<|.bool (!b)
 | .neg,.d (.int k n)=>some<|.d<|.int k<|k.wrap<|0-n
 |_,_=>none
def toList_data(b:ByteArray):b.toList=b.data.toList:=Go.Lib.toList_data b
section
variable {P:Program} {w:World} {O L:Nat->Prop} {σ:Nat->Value}
def aC.int{k:IntKind}{n:Int}{v:Value}(h:aC w O L σ (.d<|.int k n) v):v= .int k n:=by
 cases h with|d _ _ h=>cases h;rfl
def aC.bool{b:Bool}{v:Value}(h:aC w O L σ (.d<|.bool b) v):v= .bool b:=by
 cases h with|d _ _ h=>cases h;rfl
def aC.str{s:List UInt8}{v:Value}(h:aC w O L σ (.d<|.str s) v):∃b,v= .string b/\b.data.toList=s:=by
 cases h with|d _ _ h=>cases h with|str s b h=>exact⟨b,rfl,h⟩
def aC.mkInt(k:IntKind)(n:Int):aC w O L σ (.d<|.int k n)<|.int k n:= .d _ _<|.int _ _
def aC.gy(b:Bool):aC w O L σ (.d<|.bool b)<|.bool b:= .d _ _<|.bool _
def aC.mkStr(b:ByteArray):aC w O L σ (.d<|.str b.data.toList)<|.string b:= .d _ _<|.str _ _ rfl
def VW{op:BinOp}{x y:AV}{r:AV}(h:VV op x y=some r){u v:Value}(H:aC w O L σ x u)(I:aC w O L σ y v)(t:TypeId)(K N:Operand) :
 ∃z,(do eqGuard op t K N u v;binOp op t u v:Sem Value).run P w= .ok z w/\aC w O L σ r z:=by
 unfold VV at h;split at h
 .rename_i k a J b;obtain rfl:=H.int;obtain rfl:=I.int;split at h
  .by_cases j:b<0
   .cases op<;>simp[xe,j]at h
   .cases op
    case shl=>simp[xe,j]at h;subst h;exact⟨_,by simp[eqGuard,binOp,Op.shift,j],.mkInt _ _⟩
    case shr=>simp[xe,j]at h;subst h;exact⟨_,by simp[eqGuard,binOp,Op.shift,j],.mkInt _ _⟩
    all_goals (rename_i D;cases D)
  rename_i D;cases G:KF k J with
  |false=>rw[G]at h;cases h
  |true =>
   rw[G]at h;obtain rfl:k=J :=by simpa [KF] using G
   cases op
   case shl=>cases D
   case shr=>cases D
   case rem =>
    simp only[oL]at h;by_cases j:b=0
    .simp[j]at h
    .simp[j]at h;subst h;exact⟨_,by simp[eqGuard,binOp,Op.intDiv,j],.mkInt _ _⟩
   case quo =>
    simp only[oL]at h;by_cases j:b=0
    .simp[j]at h
    .simp[j]at h;subst h;exact⟨_,by simp[eqGuard,binOp,Op.intDiv,j],.mkInt _ _⟩
   case and=>simp only[oL]at h;cases h;exact⟨.int k<|xc k a b,by simp[eqGuard,binOp];rfl,.mkInt _ _⟩
   case or=>simp only[oL]at h;cases h;exact⟨.int k<|bOr k a b,by simp[eqGuard,binOp];rfl,.mkInt _ _⟩
   case andNot=>simp only[oL]at h;cases h;exact⟨.int k<|qJ k a b,by simp[eqGuard,binOp];rfl,.mkInt _ _⟩
   case xor=>simp only[oL]at h;cases h;exact⟨.int k<|VT k a b,by simp[eqGuard,binOp];rfl,.mkInt _ _⟩
   all_goals simp only[oL]at h
   all_goals first
    |(cases h;done)
    |(cases h;exact⟨_,by simp[eqGuard,binOp,Op.intArith,Op.intCmp],.mkInt _ _⟩)
    |(cases h;exact⟨_,by simp[eqGuard,binOp,Op.intArith,Op.intCmp];rfl,.gy _⟩)
    |(cases h;exact⟨_,by simp[eqGuard,binOp,Op.intArith,Op.intCmp],.gy _⟩)
 .rename_i a b;obtain⟨a,rfl,rfl⟩:=H.str;obtain⟨b,rfl,rfl⟩:=I.str;cases op<;>simp only[SY]at h
  all_goals first
   |(cases h;done)
   |(cases h;exact⟨.bool _,by simp[eqGuard,binOp,Op.stringOp,toList_data],.gy _⟩)
 .cases h
def aaL{op:UnOp}{x r:AV}(h:unA op x=some r){u:Value}(j:aC w O L σ x u):∃z,(Op.unary op u).run P w= .ok z w/\aC w O L σ r z:=by
 unfold unA at h;split at h
 .obtain rfl:=j.bool;cases h;exact⟨_,by simp[Op.unary],.gy _⟩
 .obtain rfl:=j.int;cases h;exact⟨_,by simp[Op.unary,Op.intArith],.mkInt _ _⟩
 .cases h
end

