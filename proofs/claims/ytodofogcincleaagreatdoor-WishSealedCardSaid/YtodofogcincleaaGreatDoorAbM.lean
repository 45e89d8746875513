/-
  One text.
-/
set_option linter.all false
theorem aj.{u_1}:∀{α:Type u_1} {l:List α} {i:Nat} (h:i<l.length),l[i]? =some l[i]:= @List.getElem?_eq_getElem
theorem ag:∀{n m:Nat},n.ble m=true->n<=m:= @Nat.le_of_ble_eq_true
theorem aq.{u_1}:∀{α:Type u_1} {i:Nat} {a:α} {l:List α},l[i]? =some a ↔ ∃h,l[i]=a:= @List.getElem?_eq_some_iff
theorem ar.{u_1}:∀{α:Type u_1} {l:List α} {i:Nat} {a:α},l[i]? =some a->a∈l:= @List.mem_of_getElem?
theorem ao.{u_1,u_2}:∀{α:Type u_1} {β:Type u_2} {as:List α} (f:α->β),(List.map f as).length=as.length:= @List.length_map
theorem aw:∀(n:Nat),0<=(n:Int):= @Int.natCast_nonneg
theorem eR:(false=true)=False:= @Bool.false_eq_true
theorem ay.{u_1}:∀{α:Type u_1} {p:α->Bool} {l:List α},l.all p=true ↔ ∀(x:α),x∈l->p x=true:= @List.all_eq_true
theorem aH:∀(a b:Bool),((a&&b)=true)=(a=true/\b=true):= @Bool.and_eq_true
theorem gZ:∀(b:Bool),(true&&b)=b:= @Bool.true_and
theorem kZ:∀(b:Bool),(b&&false)=false:= @Bool.and_false
theorem aZ.{u_1}:∀{α:Type u_1} (y:α) {a:α} {l:List α},a∈l->a∈y::l:= @List.mem_cons_of_mem
theorem vy:∀(b:Bool),(false&&b)=false:= @Bool.false_and
theorem vz:(!false)=true:= @Bool.not_false
theorem iJ:∀(b:Bool),(false||b)=b:= @Bool.false_or
theorem aN.{u_1,u_2}:∀{α:Type u_1} {β:Type u_2} {f:α->β} {l:List α} {i:Nat},(List.map f l)[i]? =Option.map f l[i]? := @List.getElem?_map
theorem BU:∀(b:Bool),(b||false)=b:= @Bool.or_false
theorem jm:∀(b:Bool),(b&&true)=b:= @Bool.and_true
theorem aO:∀{n m:Nat},n.beq m=true->n=m:= @Nat.eq_of_beq_eq_true
theorem bp.{u_1}:∀{α:Type u_1} {xs:Array α} {i:Nat} {d:α},xs.getD i d=xs[i]?.getD d:= @Array.getD_eq_getD_getElem?
theorem rf:(!true)=false:= @Bool.not_true
theorem ME:∀(b:Bool),(!!b)=b:= @Bool.not_not
theorem aW.{u_1}:∀{α:Type u_1} {xs:Array α} {i:Nat},xs.toList[i]? =xs[i]? := @Array.getElem?_toList
theorem MF:∀(b:Bool),(b||true)=true:= @Bool.or_true
theorem bj.{u_1}:∀{α:Type u_1} {i:Nat} {b:α} {xs:Array α},xs[i]? =some b ↔ ∃h,xs[i]=b:= @Array.getElem?_eq_some_iff
theorem MG:∀(b:Bool),(true||b)=true:= @Bool.true_or
theorem cq.{u_1}:∀{α:Type u_1} {l₁ l₂:List α} {i:Nat},i<l₁.length->(l₁++l₂)[i]? =l₁[i]? := @List.getElem?_append_left
theorem bX.{u_1}:∀{α:Type u_1} {l₁ l₂:List α} {i:Nat},l₁.length<=i->(l₁++l₂)[i]? =l₂[i-l₁.length]? := @List.getElem?_append_right
theorem cd.{u_1}:∀{α:Type u_1} {a:α} {l:List α},a∈l-> ∃i:Nat,l[i]? =some a:= @List.getElem?_of_mem
theorem la.{u_1}:∀{α:Type u_1} [BEq α] [LawfulBEq α] {a:α} {as:List α},as.contains a=true ↔ a∈as:= @List.contains_iff_mem
theorem ae.{u_1,u_2}{α:Sort u_1}{β:Sort u_2}{a:α}{b:β}:a=a/\b=b:=⟨rfl,rfl⟩
theorem aK:((false=true)=False)/\((!true)=false)/\((!false)=true)/\(∀b:Bool,(!!b)=b)/\(∀b:Bool,(true||b)=true)/\(∀b:Bool,(b||true)=true)/\(∀b:Bool,(false||b)=b)/\(∀b:Bool,(b||false)=b)/\(∀b:Bool,(b&&true)=b)/\(∀b:Bool,(true&&b)=b)/\(∀b:Bool,(false&&b)=false)/\(∀b:Bool,(b&&false)=false):=⟨Bool.false_eq_true,Bool.not_true,Bool.not_false,Bool.not_not,Bool.true_or,Bool.or_true,Bool.false_or,Bool.or_false,Bool.and_true,Bool.true_and,Bool.false_and,Bool.and_false⟩
