/-
  One text.
-/
set_option linter.all false
theorem au.{u_1}:∀{α:Type u_1} {l:List α} {i:Nat} (h:i<l.length),l[i]? =some l[i]:= @List.getElem?_eq_getElem
theorem bB:∀{n m:Nat},n.ble m=true->n<=m:= @Nat.le_of_ble_eq_true
theorem aB.{u_1}:∀{α:Type u_1} {i:Nat} {a:α} {l:List α},l[i]? =some a ↔ ∃h,l[i]=a:= @List.getElem?_eq_some_iff
theorem aD.{u_1}:∀{α:Type u_1} {l:List α} {i:Nat} {a:α},l[i]? =some a->a∈l:= @List.mem_of_getElem?
theorem aA.{u_1,u_2}:∀{α:Type u_1} {β:Type u_2} {as:List α} (f:α->β),(List.map f as).length=as.length:= @List.length_map
theorem aC:∀(n:Nat),0<=(n:Int):= @Int.natCast_nonneg
theorem fR:(false=true)=False:= @Bool.false_eq_true
theorem aI.{u_1}:∀{α:Type u_1} {p:α->Bool} {l:List α},l.all p=true ↔ ∀(x:α),x∈l->p x=true:= @List.all_eq_true
theorem aU:∀(a b:Bool),((a&&b)=true)=(a=true/\b=true):= @Bool.and_eq_true
theorem iS:∀(b:Bool),(true&&b)=b:= @Bool.true_and
theorem ma:∀(b:Bool),(b&&false)=false:= @Bool.and_false
theorem bC.{u_1}:∀{α:Type u_1} (y:α) {a:α} {l:List α},a∈l->a∈y::l:= @List.mem_cons_of_mem
theorem wX:∀(b:Bool),(false&&b)=false:= @Bool.false_and
theorem wY:(!false)=true:= @Bool.not_false
theorem ka:∀(b:Bool),(false||b)=b:= @Bool.false_or
theorem bc.{u_1,u_2}:∀{α:Type u_1} {β:Type u_2} {f:α->β} {l:List α} {i:Nat},(List.map f l)[i]? =Option.map f l[i]? := @List.getElem?_map
theorem Ds:∀(b:Bool),(b||false)=b:= @Bool.or_false
theorem iG:∀(b:Bool),(b&&true)=b:= @Bool.and_true
theorem bd:∀{n m:Nat},n.beq m=true->n=m:= @Nat.eq_of_beq_eq_true
theorem bM.{u_1}:∀{α:Type u_1} {xs:Array α} {i:Nat} {d:α},xs.getD i d=xs[i]?.getD d:= @Array.getD_eq_getD_getElem?
theorem sd:(!true)=false:= @Bool.not_true
theorem OM:∀(b:Bool),(!!b)=b:= @Bool.not_not
theorem bx.{u_1}:∀{α:Type u_1} {xs:Array α} {i:Nat},xs.toList[i]? =xs[i]? := @Array.getElem?_toList
theorem ON:∀(b:Bool),(b||true)=true:= @Bool.or_true
theorem bI.{u_1}:∀{α:Type u_1} {i:Nat} {b:α} {xs:Array α},xs[i]? =some b ↔ ∃h,xs[i]=b:= @Array.getElem?_eq_some_iff
theorem OO:∀(b:Bool),(true||b)=true:= @Bool.true_or
theorem cU.{u_1}:∀{α:Type u_1} {l₁ l₂:List α} {i:Nat},i<l₁.length->(l₁++l₂)[i]? =l₁[i]? := @List.getElem?_append_left
theorem cL.{u_1}:∀{α:Type u_1} {l₁ l₂:List α} {i:Nat},l₁.length<=i->(l₁++l₂)[i]? =l₂[i-l₁.length]? := @List.getElem?_append_right
theorem cQ.{u_1}:∀{α:Type u_1} {a:α} {l:List α},a∈l-> ∃i:Nat,l[i]? =some a:= @List.getElem?_of_mem
theorem mc.{u_1}:∀{α:Type u_1} [BEq α] [LawfulBEq α] {a:α} {as:List α},as.contains a=true ↔ a∈as:= @List.contains_iff_mem
theorem ae.{u_1,u_2}{α:Sort u_1}{β:Sort u_2}{a:α}{b:β}:a=a/\b=b:=⟨rfl,rfl⟩
theorem aY:((false=true)=False)/\((!true)=false)/\((!false)=true)/\(∀b:Bool,(!!b)=b)/\(∀b:Bool,(true||b)=true)/\(∀b:Bool,(b||true)=true)/\(∀b:Bool,(false||b)=b)/\(∀b:Bool,(b||false)=b)/\(∀b:Bool,(b&&true)=b)/\(∀b:Bool,(true&&b)=b)/\(∀b:Bool,(false&&b)=false)/\(∀b:Bool,(b&&false)=false):=⟨Bool.false_eq_true,Bool.not_true,Bool.not_false,Bool.not_not,Bool.true_or,Bool.or_true,Bool.false_or,Bool.or_false,Bool.and_true,Bool.true_and,Bool.false_and,Bool.and_false⟩
