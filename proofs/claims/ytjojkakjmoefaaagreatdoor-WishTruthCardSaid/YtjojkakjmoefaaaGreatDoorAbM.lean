/-
  One text.
-/
set_option linter.all false
def ao.{u_1}:∀{α:Type u_1} {l:List α} {i:Nat} (h:i<l.length),l[i]? =some l[i]:= @List.getElem?_eq_getElem
def bA:∀{n m:Nat},n.ble m=true->n<=m:= @Nat.le_of_ble_eq_true
def aA.{u_1}:∀{α:Type u_1} {i:Nat} {a:α} {l:List α},l[i]? =some a ↔ ∃h,l[i]=a:= @List.getElem?_eq_some_iff
def aw.{u_1}:∀{α:Type u_1} {l:List α} {i:Nat} {a:α},l[i]? =some a->a∈l:= @List.mem_of_getElem?
def au.{u_1,u_2}:∀{α:Type u_1} {β:Type u_2} {as:List α} (f:α->β),(List.map f as).length=as.length:= @List.length_map
def aB:∀(n:Nat),0<=(n:Int):= @Int.natCast_nonneg
def eV:(false=true)=False:= @Bool.false_eq_true
def aG.{u_1}:∀{α:Type u_1} {p:α->Bool} {l:List α},l.all p=true ↔ ∀(x:α),x∈l->p x=true:= @List.all_eq_true
def aK:∀(a b:Bool),((a&&b)=true)=(a=true/\b=true):= @Bool.and_eq_true
def gq:∀(b:Bool),(true&&b)=b:= @Bool.true_and
def kW:∀(b:Bool),(b&&false)=false:= @Bool.and_false
def aZ.{u_1}:∀{α:Type u_1} (y:α) {a:α} {l:List α},a∈l->a∈y::l:= @List.mem_cons_of_mem
def pW:∀(b:Bool),(false&&b)=false:= @Bool.false_and
def An:(!false)=true:= @Bool.not_false
def iI:∀(b:Bool),(false||b)=b:= @Bool.false_or
def bc.{u_1,u_2}:∀{α:Type u_1} {β:Type u_2} {f:α->β} {l:List α} {i:Nat},(List.map f l)[i]? =Option.map f l[i]? := @List.getElem?_map
def vz:∀(b:Bool),(b||false)=b:= @Bool.or_false
def gF:∀(b:Bool),(b&&true)=b:= @Bool.and_true
def bg:∀{n m:Nat},n.beq m=true->n=m:= @Nat.eq_of_beq_eq_true
def bU.{u_1}:∀{α:Type u_1} {xs:Array α} {i:Nat} {d:α},xs.getD i d=xs[i]?.getD d:= @Array.getD_eq_getD_getElem?
def vA:(!true)=false:= @Bool.not_true
def Ic:∀(b:Bool),(!!b)=b:= @Bool.not_not
def bE.{u_1}:∀{α:Type u_1} {xs:Array α} {i:Nat},xs.toList[i]? =xs[i]? := @Array.getElem?_toList
def Ao:∀(b:Bool),(b||true)=true:= @Bool.or_true
def bP.{u_1}:∀{α:Type u_1} {i:Nat} {b:α} {xs:Array α},xs[i]? =some b ↔ ∃h,xs[i]=b:= @Array.getElem?_eq_some_iff
def Vw:∀(b:Bool),(true||b)=true:= @Bool.true_or
def dm.{u_1}:∀{α:Type u_1} {j l₂:List α} {i:Nat},i<j.length->(j++l₂)[i]? =j[i]? := @List.getElem?_append_left
def cL.{u_1}:∀{α:Type u_1} {j l₂:List α} {i:Nat},j.length<=i->(j++l₂)[i]? =l₂[i-j.length]? := @List.getElem?_append_right
def cO.{u_1}:∀{α:Type u_1} {a:α} {l:List α},a∈l-> ∃i:Nat,l[i]? =some a:= @List.getElem?_of_mem
def iJ.{u_1}:∀{α:Type u_1} [BEq α] [LawfulBEq α] {a:α} {as:List α},as.contains a=true ↔ a∈as:= @List.contains_iff_mem
def ae.{u_1,u_2}{α:Sort u_1}{β:Sort u_2}{a:α}{b:β}:a=a/\b=b:=⟨rfl,rfl⟩
def aX:((false=true)=False)/\((!true)=false)/\((!false)=true)/\(∀b:Bool,(!!b)=b)/\(∀b:Bool,(true||b)=true)/\(∀b:Bool,(b||true)=true)/\(∀b:Bool,(false||b)=b)/\(∀b:Bool,(b||false)=b)/\(∀b:Bool,(b&&true)=b)/\(∀b:Bool,(true&&b)=b)/\(∀b:Bool,(false&&b)=false)/\(∀b:Bool,(b&&false)=false):=⟨Bool.false_eq_true,Bool.not_true,Bool.not_false,Bool.not_not,Bool.true_or,Bool.or_true,Bool.false_or,Bool.or_false,Bool.and_true,Bool.true_and,Bool.false_and,Bool.and_false⟩
def M{p q:Prop}(h:q)(e:p=q:=by conv=>lhs;whnf):p:=e▸h
