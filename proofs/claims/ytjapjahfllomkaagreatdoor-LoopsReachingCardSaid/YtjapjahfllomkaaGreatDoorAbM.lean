/-
  Names.
-/
set_option linter.all false
theorem ah.{u_1}:∀{α:Type u_1} {l:List α} {i:Nat} (h:i<l.length),l[i]? =some l[i]:= @List.getElem?_eq_getElem
theorem ai:∀{n m:Nat},n.ble m=true->n<=m:= @Nat.le_of_ble_eq_true
theorem av.{u_1}:∀{α:Type u_1} {i:Nat} {a:α} {l:List α},l[i]? =some a ↔ ∃h,l[i]=a:= @List.getElem?_eq_some_iff
theorem ar.{u_1}:∀{α:Type u_1} {l:List α} {i:Nat} {a:α},l[i]? =some a->a∈l:= @List.mem_of_getElem?
theorem ao.{u_1,u_2}:∀{α:Type u_1} {β:Type u_2} {as:List α} (f:α->β),(List.map f as).length=as.length:= @List.length_map
theorem az:∀(n:Nat),0<=(n:Int):= @Int.natCast_nonneg
theorem aB:(false=true)=False:= @Bool.false_eq_true
theorem aA.{u_1}:∀{α:Type u_1} {p:α->Bool} {l:List α},l.all p=true ↔ ∀(x:α),x∈l->p x=true:= @List.all_eq_true
theorem aR:∀(a b:Bool),((a&&b)=true)=(a=true/\b=true):= @Bool.and_eq_true
theorem aF:∀(b:Bool),(true&&b)=b:= @Bool.true_and
theorem aD:∀(b:Bool),(b&&false)=false:= @Bool.and_false
theorem aW.{u_1}:∀{α:Type u_1} (y:α) {a:α} {l:List α},a∈l->a∈y::l:= @List.mem_cons_of_mem
theorem aG:∀(b:Bool),(false&&b)=false:= @Bool.false_and
theorem aI:(!false)=true:= @Bool.not_false
theorem aC:∀(b:Bool),(false||b)=b:= @Bool.false_or
theorem aV.{u_1,u_2}:∀{α:Type u_1} {β:Type u_2} {f:α->β} {l:List α} {i:Nat},(List.map f l)[i]? =Option.map f l[i]? := @List.getElem?_map
theorem aE:∀(b:Bool),(b||false)=b:= @Bool.or_false
theorem aH:∀(b:Bool),(b&&true)=b:= @Bool.and_true
theorem ba:∀{n m:Nat},n.beq m=true->n=m:= @Nat.eq_of_beq_eq_true
theorem bw.{u_1}:∀{α:Type u_1} {xs:Array α} {i:Nat} {d:α},xs.getD i d=xs[i]?.getD d:= @Array.getD_eq_getD_getElem?
theorem aK:(!true)=false:= @Bool.not_true
theorem aJ:∀(b:Bool),(!!b)=b:= @Bool.not_not
theorem bl.{u_1}:∀{α:Type u_1} {xs:Array α} {i:Nat},xs.toList[i]? =xs[i]? := @Array.getElem?_toList
theorem aN:∀(b:Bool),(b||true)=true:= @Bool.or_true
theorem bA.{u_1}:∀{α:Type u_1} {i:Nat} {b:α} {xs:Array α},xs[i]? =some b ↔ ∃h,xs[i]=b:= @Array.getElem?_eq_some_iff
theorem aO:∀(b:Bool),(true||b)=true:= @Bool.true_or
theorem bM.{u_1}:∀{α:Type u_1} {l₁ l₂:List α} {i:Nat},i<l₁.length->(l₁++l₂)[i]? =l₁[i]? := @List.getElem?_append_left
theorem bQ.{u_1}:∀{α:Type u_1} {l₁ l₂:List α} {i:Nat},l₁.length<=i->(l₁++l₂)[i]? =l₂[i-l₁.length]? := @List.getElem?_append_right
theorem cd.{u_1}:∀{α:Type u_1} {a:α} {l:List α},a∈l-> ∃i:Nat,l[i]? =some a:= @List.getElem?_of_mem
theorem cr.{u_1}:∀{α:Type u_1} [BEq α] [LawfulBEq α] {a:α} {as:List α},as.contains a=true ↔ a∈as:= @List.contains_iff_mem
