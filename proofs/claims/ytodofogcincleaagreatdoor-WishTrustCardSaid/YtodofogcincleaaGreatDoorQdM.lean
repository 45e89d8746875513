/-
  One text.
-/
import Derived.Test.YtodofogcincleaaGreatDoorMQa
import Derived.Laws.Sem
import Derived.Lib.Strings
set_option linter.all false
namespace NQ
open Go Go.RowKit
def Ek(v:AV)(n:Nat):Option AV :=
 match v with
 | .ptr s off=>some (.ptr s (off+n))
 | .dm s size i off=>some (.dm s size i (off+n))
 | .d (.ptr cells)=>some (.d (.ptr (cells.drop n)))
 |_=>none
def EA(k:IntKind)(x y:Int):Int:=k.wrap ((BitVec.ofInt k.bits x &&& BitVec.ofInt k.bits y).toNat:Nat)
def bOr(k:IntKind)(x y:Int):Int:=k.wrap ((BitVec.ofInt k.bits x ||| BitVec.ofInt k.bits y).toNat:Nat)
def sP(k:IntKind)(x y:Int):Int:=k.wrap ((BitVec.ofInt k.bits x &&& ~~~ BitVec.ofInt k.bits y).toNat:Nat)
def Ph(k:IntKind)(x y:Int):Int:=k.wrap ((BitVec.ofInt k.bits x ^^^ BitVec.ofInt k.bits y).toNat:Nat)
def mH(op:BinOp)(k:IntKind)(a b:Int):Option D :=
 match op with
 | .add=>some (.int k (k.wrap (a+b)))
 | .sub=>some (.int k (k.wrap (a-b)))
 | .mul=>some (.int k (k.wrap (a*b)))
 | .eql=>some (.bool (a==b))
 | .neq=>some (.bool (a != b))
 | .lss=>some (.bool (decide (a<b)))
 | .leq=>some (.bool (decide (a<=b)))
 | .gtr=>some (.bool (decide (a>b)))
 | .geq=>some (.bool (decide (a>=b)))
 | .and=>some (.int k (EA k a b))
 | .or=>some (.int k (bOr k a b))
 | .andNot=>some (.int k (sP k a b))
 | .xor=>some (.int k (Ph k a b))
 | .rem=>match decide (b=0)with|true=>none|false=>some (.int k (a.tmod b))
 | .quo=>match decide (b=0)with|true=>none|false=>some (.int k (k.wrap (a.tdiv b)))
 |_=>none
def MA(op:BinOp)(a b:List UInt8):Option D :=
 match op with
 | .eql=>some (.bool (a==b))
 | .neq=>some (.bool (!(a==b)))
 | .lss=>some (.bool (Op.bytesLess a b))
 | .leq=>some (.bool (Op.bytesLess a b||a==b))
 | .gtr=>some (.bool (!(Op.bytesLess a b||a==b)))
 | .geq=>some (.bool (!(Op.bytesLess a b)))
 |_=>none
def tN(op:BinOp)(k:IntKind)(a b:Int):Option D :=
 match decide (b<0),op with
 |false,.shl=>some (.int k (k.wrap (a*2 ^ (min b.toNat k.bits))))
 |false,.shr=>some (.int k (a.fdiv (2 ^ (min b.toNat k.bits))))
 |_,_=>none
def SF:BinOp->Bool
 | .shl| .shr=>true
 |_=>false
def FO(a b:IntKind):Bool:=decide (a=b)
def Pk(op:BinOp)(x y:AV):Option AV :=
 match x,y with
 | .d (.int k a),.d (.int k' b)=>(match SF op with
  |true=>(match tN op k a b with|some r=>some (.d r)|none=>none)
  |false=>(match FO k k' with|true=>(match mH op k a b with|some r=>some (.d r)|none=>none)|false=>none))
 | .d (.str a),.d (.str b)=>match MA op a b with|some r=>some (.d r)|none=>none
 |_,_=>none
def unA(op:UnOp)(x:AV):Option AV :=
 match op,x with
 | .not,.d (.bool b)=>some (.d (.bool (!b)))
 | .neg,.d (.int k n)=>some (.d (.int k (k.wrap (0-n))))
 |_,_=>none
theorem toList_data(b:ByteArray):b.toList=b.data.toList:=Go.Lib.toList_data b
section
variable {P:Program} {w:World} {O L:Nat->Prop} {σ:Nat->Value}
theorem aG.int{k:IntKind}{n:Int}{v:Value}(h:aG w O L σ (.d (.int k n)) v):v= .int k n:=by
 cases h with|d _ _ h=>cases h;rfl
theorem aG.bool{b:Bool}{v:Value}(h:aG w O L σ (.d (.bool b)) v):v= .bool b:=by
 cases h with|d _ _ h=>cases h;rfl
theorem aG.str{s:List UInt8}{v:Value}(h:aG w O L σ (.d (.str s)) v):∃b,v= .string b/\b.data.toList=s:=by
 cases h with|d _ _ h=>cases h with|str s b h=>exact⟨b,rfl,h⟩
theorem aG.mkInt(k:IntKind)(n:Int):aG w O L σ (.d (.int k n)) (.int k n):= .d _ _ (.int _ _)
theorem aG.fL(b:Bool):aG w O L σ (.d (.bool b)) (.bool b):= .d _ _ (.bool _)
theorem aG.mkStr(b:ByteArray):aG w O L σ (.d (.str b.data.toList)) (.string b):= .d _ _ (.str _ _ rfl)
theorem Pl{op:BinOp}{x y:AV}{r:AV}(h:Pk op x y=some r){u v:Value}(hx:aG w O L σ x u)(hy:aG w O L σ y v)(t:TypeId)(ox oy:Operand) :
 ∃z,(do eqGuard op t ox oy u v;binOp op t u v:Sem Value).run P w= .ok z w/\aG w O L σ r z:=by
 unfold Pk at h;split at h
 .rename_i k a k' b;obtain rfl:=hx.int;obtain rfl:=hy.int;split at h
  .by_cases hb:b<0
   .cases op <;> simp[tN,hb]at h
   .cases op
    case shl=>simp[tN,hb]at h;subst h;exact⟨_,by simp[eqGuard,binOp,Op.shift,hb],.mkInt _ _⟩
    case shr=>simp[tN,hb]at h;subst h;exact⟨_,by simp[eqGuard,binOp,Op.shift,hb],.mkInt _ _⟩
    all_goals (rename_i ha;cases ha)
  rename_i ha;cases hk:FO k k' with
  |false=>rw[hk]at h;cases h
  |true =>
   rw[hk]at h;obtain rfl:k=k' :=by simpa [FO] using hk
   cases op
   case shl=>cases ha
   case shr=>cases ha
   case rem =>
    simp only[mH]at h;by_cases hb:b=0
    .simp[hb]at h
    .simp[hb]at h;subst h;exact⟨_,by simp[eqGuard,binOp,Op.intDiv,hb],.mkInt _ _⟩
   case quo =>
    simp only[mH]at h;by_cases hb:b=0
    .simp[hb]at h
    .simp[hb]at h;subst h;exact⟨_,by simp[eqGuard,binOp,Op.intDiv,hb],.mkInt _ _⟩
   case and=>simp only[mH]at h;cases h;exact⟨.int k (EA k a b),by simp[eqGuard,binOp];rfl,.mkInt _ _⟩
   case or=>simp only[mH]at h;cases h;exact⟨.int k (bOr k a b),by simp[eqGuard,binOp];rfl,.mkInt _ _⟩
   case andNot=>simp only[mH]at h;cases h;exact⟨.int k (sP k a b),by simp[eqGuard,binOp];rfl,.mkInt _ _⟩
   case xor=>simp only[mH]at h;cases h;exact⟨.int k (Ph k a b),by simp[eqGuard,binOp];rfl,.mkInt _ _⟩
   all_goals simp only[mH]at h
   all_goals first
    |(cases h;done)
    |(cases h;exact⟨_,by simp[eqGuard,binOp,Op.intArith,Op.intCmp],.mkInt _ _⟩)
    |(cases h;exact⟨_,by simp[eqGuard,binOp,Op.intArith,Op.intCmp];rfl,.fL _⟩)
    |(cases h;exact⟨_,by simp[eqGuard,binOp,Op.intArith,Op.intCmp],.fL _⟩)
 .rename_i a b;obtain⟨a,rfl,rfl⟩:=hx.str;obtain⟨b,rfl,rfl⟩:=hy.str;cases op <;> simp only[MA]at h
  all_goals first
   |(cases h;done)
   |(cases h;exact⟨.bool _,by simp[eqGuard,binOp,Op.stringOp,toList_data],.fL _⟩)
 .cases h
theorem Tu{op:UnOp}{x r:AV}(h:unA op x=some r){u:Value}(hx:aG w O L σ x u):∃z,(Op.unary op u).run P w= .ok z w/\aG w O L σ r z:=by
 unfold unA at h;split at h
 .obtain rfl:=hx.bool;cases h;exact⟨_,by simp[Op.unary],.fL _⟩
 .obtain rfl:=hx.int;cases h;exact⟨_,by simp[Op.unary,Op.intArith],.mkInt _ _⟩
 .cases h
end
end NQ
