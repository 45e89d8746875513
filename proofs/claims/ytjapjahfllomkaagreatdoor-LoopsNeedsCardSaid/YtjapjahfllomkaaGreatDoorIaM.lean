/-
  Sorting names; the copies of a world by apex, as maps. Plain.
-/
import Derived.Test.YtjapjahfllomkaaGreatDoorAbM
import Derived.Test.YtjapjahfllomkaaGreatDoorMGja
import Derived.Test.YtjapjahfllomkaaGreatDoorQmkM
set_option linter.all false
set_option maxRecDepth 100000
namespace NP
open NQ Go
def yy(a:Bs):List Bs->List Bs
 | []=>[a]
 | b::t=>if aR a b<=0 then a::b::t else b::yy a t
def iw:List Bs->List Bs
 | []=>[]
 | a::t=>yy a (iw t)
theorem tn(a:Bs):∀l,(yy a l).Perm (a::l)
 | []=> .refl _
 | b::t=>by
  unfold yy;split
  . exact .refl _
  . exact((tn a t).cons b).trans (.swap a b t)
theorem ix:∀l,(iw l).Perm l
 | []=> .refl _
 | a::t=>(tn a _).trans ((ix t).cons a)
theorem Fw(a b:Bs)(h:¬aR a b<=0):aR b a<=0:=by
 have:=bc.anti a b;omega
theorem vh(a:Bs):∀l,l.Pairwise (fun a b=>aR a b<=0)->(yy a l).Pairwise fun a b=>aR a b<=0
 | [],_=>List.pairwise_singleton _ _
 | b::t,h=>by
  unfold yy;have h' :=List.pairwise_cons.1 h;split
  . rename_i hab;refine List.pairwise_cons.2 ⟨fun x hx=>?_,h⟩;rcases List.mem_cons.1 hx with rfl | hx
    . exact hab
    . exact bc.le_trans hab (h'.1 x hx)
  . rename_i hab;refine List.pairwise_cons.2 ⟨fun x hx=>?_,vh a t h'.2⟩;rcases List.mem_cons.1 ((tn a t).subset hx)with rfl | hx
    . exact Fw _ _ hab
    . exact h'.1 x hx
theorem kb:∀l,(iw l).Pairwise fun a b=>aR a b<=0
 | []=>List.Pairwise.nil
 | a::t=>vh a _ (kb t)
theorem vK{l l' :List Bs}(hp:l.Perm l')(h:l.Pairwise fun a b=>aR a b<=0)(h' :l'.Pairwise fun a b=>aR a b<=0):l=l' :=
 List.Perm.eq_of_pairwise (le:=fun a b=>aR a b<=0) (fun a b _ _ h1 h2=>(bc.zero a b).1 (by have:=bc.anti a b;omega)) h h' hp
theorem D3{l l' :List Bs}(hp:l.Perm l'):iw l=iw l' :=
 vK (((ix l).trans hp).trans (ix l').symm) (kb l) (kb l')
theorem tA{a:Bs}{l:List Bs}:a∈iw l ↔ a∈l:=(ix l).mem_iff
def Bi(x y:List D):Int:=match x,y with | [.str a],[.str b]=>(bP a b).1 | _,_=>0
theorem ic{a b:Bs}(ha:aj a=true)(hb:aj b=true):(bP a b).1=aR a b:=by
 unfold bP;rw[if_pos ⟨ha,hb⟩]
theorem Eu{l:List Bs}(h:∀a∈l,aj a=true):la (fun a b=>(bP a b).1) l:=by
 refine⟨fun x hx=>?_,fun x hx y hy z hz=>?_,fun x hx y hy z hz=>?_⟩
 . show ¬(bP x x).1<0
   rw[ic (h x hx) (h x hx),(bc.zero x x).2 rfl];decide
 . show(bP x y).1<0->(bP y z).1<0->(bP x z).1<0
   rw[ic (h x hx) (h y hy),ic (h y hy) (h z hz),ic (h x hx) (h z hz)];intro h1 h2;exact bc.OB h1 (by omega)
 . show ¬(bP x y).1<0-> ¬(bP y z).1<0-> ¬(bP x z).1<0
   rw[ic (h x hx) (h y hy),ic (h y hy) (h z hz),ic (h x hx) (h z hz)];intro h1 h2 h3;have a1:=bc.anti x y;have a2:=bc.anti y z;have:=bc.le_trans (a:=z) (b:=y) (c:=x) (by omega) (by omega);have a3:=bc.anti x z;omega
theorem D4{l:List Bs}(h:∀a∈l,aj a=true):mv Bi (l.map aA)=(iw l).map aA:=by
 rw[Jg aA (fun a b=>(bP a b).1) Bi l fun x _ y _=>rfl]
 congr 1
 have hc:=Eu h;have hp:=sc hc;refine vK (hp.trans (ix l).symm) ?_ (kb l);refine(CH hc).imp_of_mem fun{x y} hx hy hxy=>?_
 have vx:=h x (hp.subset hx);have vy:=h y (hp.subset hy);rw[ic vy vx]at hxy;have:=bc.anti x y;omega
theorem Ho{l:List Bs}(h:∀a∈l,aj a=true):la Bi (l.map aA):=la.map (fun _ _ _ _=>rfl) (Eu h)
/-! ### Maps by apex -/
def iM(g:Nat->D)(m:List (Bs×Nat)):List (Bs×D):=m.map fun p=>(p.1,g p.2)
theorem CS(g:Nat->D)(a:Bs):∀m,cG a (iM g m)=(eu a m).map g
 | []=>rfl
 | (b,i)::t=>by
  show(if a=b then _ else cG a (iM g t))=_
  unfold eu;split
  . rfl
  . exact CS g a t
theorem yZ(g:Nat->D)(a:Bs)(i:Nat):∀m,cH a (g i) (iM g m)=iM g (fC a i m)
 | []=>rfl
 | (b,j)::t=>by
  show(if a=b then _ else _::cH a _ (iM g t))=_
  unfold fC;split
  . rfl
  . rw[yZ g a i t];rfl
theorem E7(g:Nat->D)(a:Bs):∀m,iv (.str a) ((iM g m).map iB)=some ((eu a m).map g)
 | []=>rfl
 | (b,i)::t=>by
  show(match gu (.str a) [.tuple [.str b]]with | some true=>_ | some false=>iv (.str a) ((iM g t).map iB) | none=>none)=_
  have:gu (.str a) [.tuple [.str b]]=some (a==b):=rfl;rw[this];unfold eu;by_cases h:a=b
  . subst h;simp
  . have:(a==b)=false:=by simp[h]
    rw[this,if_neg h];exact E7 g a t
def dL(m:List (Bs×Nat)):List Bs:=m.map (·.1)
theorem tV(a:Bs):∀m,a∈dL m ↔ (eu a m).isSome=true
 | []=>by simp[dL,eu]
 | (b,i)::t=>by
  unfold dL eu;rw[List.map_cons,List.mem_cons];by_cases h:a=b
  . rw[if_pos h];simp[h]
  . rw[if_neg h, <- tV a t];simp[h,dL]
theorem zY(a:Bs)(i:Nat):∀m,dL (fC a i m)=if (eu a m).isSome=true then dL m else dL m++[a]
 | []=>by simp[dL,fC,eu]
 | (b,j)::t=>by
  unfold fC eu;by_cases h:a=b
  . rw[if_pos h,if_pos h];simp[dL]
  . rw[if_neg h,if_neg h];have ih:=zY a i t;unfold dL at ih ⊢;rw[List.map_cons,ih];split <;> simp
theorem GG{a:Bs}{i:Nat}{m:List (Bs×Nat)}(h:(dL m).Nodup):(dL (fC a i m)).Nodup:=by
 rw[zY];split
 . exact h
 . rename_i hn;refine List.nodup_append.2 ⟨h,by simp,fun x hx y hy=>?_⟩;rw[List.mem_singleton]at hy;subst hy;rintro rfl;exact hn ((tV _ m).1 hx)
theorem tX(zs:List ag):∀(l:List ag) (i:Nat) (m:List (Bs×Nat)),(dL m).Nodup->(dL (iz zs i l m)).Nodup
 | [],_,_,h=>h
 | p::t,i,m,h=>by
  show(dL (iz zs (i+1) t (if gn zs m p=true then fC p.zone.apex i m else m))).Nodup
  refine tX zs t (i+1) _ ?_;split
  . exact GG h
  . exact h
theorem tY(zs:List ag):(dL (dx zs)).Nodup:=tX zs zs 0 [] (by simp[dL])
theorem iO(zs:List ag)(a:Bs):a∈dL (dx zs) ↔ (bX zs a).isSome=true:=by
 rw[tV,pS];cases bX zs a <;> rfl
theorem zr{zs:List ag}{a:Bs}:a∈dL (dx zs) ↔ ∃p∈zs,p.zone.apex=a:=by
 rw[iO];cases h:bX zs a with
 | none =>
  have:=(pq zs 0 none).1 h;simp only[Option.isSome_none,ay,false_iff];rintro⟨p,hp,ha⟩;have:=this.2 p hp;simp[ha]at this
 | some x =>
  simp only[Option.isSome_some,true_iff];have h1:=(zZ zs) a x.1 (by rw[pS,h];rfl);obtain⟨p,hp,ha⟩:=h1;exact⟨p,aq hp,ha⟩
theorem CN(a:Bs)(i:Nat):∀m,(fC a i m).length<=m.length+1
 | []=>by simp[fC]
 | (b,j)::t=>by
  unfold fC;split
  . simp
  . have:=CN a i t;simp;omega
theorem x5(zs:List ag):∀(l:List ag) (i:Nat) (m:List (Bs×Nat)),(iz zs i l m).length<=m.length+l.length
 | [],_,_=>Nat.le_refl _
 | p::t,i,m=>by
  show(iz zs (i+1) t (if gn zs m p=true then fC p.zone.apex i m else m)).length<=_
  have h1:=x5 zs t (i+1) (if gn zs m p=true then fC p.zone.apex i m else m);have h2:(if gn zs m p=true then fC p.zone.apex i m else m).length<=m.length+1:=by
   split
   . exact CN _ _ _
   . omega
  simp only[List.length_cons];omega
theorem x6(zs:List ag):(dx zs).length<=zs.length:=by have:=x5 zs zs 0 [];simpa [dx] using this
def aV(zs:List ag):List Bs:=iw (dL (dx zs))
end NP
