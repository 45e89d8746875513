/-
  Sorting names; the copies of a world by apex, as maps. Plain.
-/
import Derived.Test.YtcecidfnchcagaaGreatDoorAbM
import Derived.Test.YtcecidfnchcagaaGreatDoorMGk
import Derived.Test.YtcecidfnchcagaaGreatDoorQmkM
set_option linter.all false
set_option maxRecDepth 100000
namespace NP
open NQ Go
def x4(a:Bs):List Bs->List Bs
 | []=>[a]
 | b::t=>if aQ a b<=0 then a::b::t else b::x4 a t
def ic:List Bs->List Bs
 | []=>[]
 | a::t=>x4 a (ic t)
theorem sJ(a:Bs):∀l,(x4 a l).Perm (a::l)
 | []=> .refl _
 | b::t=>by
  unfold x4;split
  . exact .refl _
  . exact((sJ a t).cons b).trans (.swap a b t)
theorem ie:∀l,(ic l).Perm l
 | []=> .refl _
 | a::t=>(sJ a _).trans ((ie t).cons a)
theorem EU(a b:Bs)(h:¬aQ a b<=0):aQ b a<=0:=by
 have:=aZ.anti a b;omega
theorem uI(a:Bs):∀l,l.Pairwise (fun a b=>aQ a b<=0)->(x4 a l).Pairwise fun a b=>aQ a b<=0
 | [],_=>List.pairwise_singleton _ _
 | b::t,h=>by
  unfold x4;have h' :=List.pairwise_cons.1 h;split
  . rename_i hab;refine List.pairwise_cons.2 ⟨fun x hx=>?_,h⟩;rcases List.mem_cons.1 hx with rfl | hx
    . exact hab
    . exact aZ.le_trans hab (h'.1 x hx)
  . rename_i hab;refine List.pairwise_cons.2 ⟨fun x hx=>?_,uI a t h'.2⟩;rcases List.mem_cons.1 ((sJ a t).subset hx)with rfl | hx
    . exact EU _ _ hab
    . exact h'.1 x hx
theorem jV:∀l,(ic l).Pairwise fun a b=>aQ a b<=0
 | []=>List.Pairwise.nil
 | a::t=>uI a _ (jV t)
theorem u6{l l' :List Bs}(hp:l.Perm l')(h:l.Pairwise fun a b=>aQ a b<=0)(h' :l'.Pairwise fun a b=>aQ a b<=0):l=l' :=
 List.Perm.eq_of_pairwise (le:=fun a b=>aQ a b<=0) (fun a b _ _ h1 h2=>(aZ.zero a b).1 (by have:=aZ.anti a b;omega)) h h' hp
theorem Du{l l' :List Bs}(hp:l.Perm l'):ic l=ic l' :=
 u6 (((ie l).trans hp).trans (ie l').symm) (jV l) (jV l')
theorem y3{a:Bs}{l:List Bs}:a∈ic l ↔ a∈l:=(ie l).mem_iff
def AQ(x y:List D):Int:=match x,y with | [.str a],[.str b]=>(bO a b).1 | _,_=>0
theorem gT{a b:Bs}(ha:aj a=true)(hb:aj b=true):(bO a b).1=aQ a b:=by
 unfold bO;rw[if_pos ⟨ha,hb⟩]
theorem DR{l:List Bs}(h:∀a∈l,aj a=true):kQ (fun a b=>(bO a b).1) l:=by
 refine⟨fun x hx=>?_,fun x hx y hy z hz=>?_,fun x hx y hy z hz=>?_⟩
 . show ¬(bO x x).1<0
   rw[gT (h x hx) (h x hx),(aZ.zero x x).2 rfl];decide
 . show(bO x y).1<0->(bO y z).1<0->(bO x z).1<0
   rw[gT (h x hx) (h y hy),gT (h y hy) (h z hz),gT (h x hx) (h z hz)];intro h1 h2;exact aZ.NA h1 (by omega)
 . show ¬(bO x y).1<0-> ¬(bO y z).1<0-> ¬(bO x z).1<0
   rw[gT (h x hx) (h y hy),gT (h y hy) (h z hz),gT (h x hx) (h z hz)];intro h1 h2 h3;have a1:=aZ.anti x y;have a2:=aZ.anti y z;have:=aZ.le_trans (a:=z) (b:=y) (c:=x) (by omega) (by omega);have a3:=aZ.anti x z;omega
theorem Dv{l:List Bs}(h:∀a∈l,aj a=true):lZ AQ (l.map aI)=(ic l).map aI:=by
 rw[Iw aI (fun a b=>(bO a b).1) AQ l fun x _ y _=>rfl]
 congr 1
 have hc:=DR h;have hp:=rA hc;refine u6 (hp.trans (ie l).symm) ?_ (jV l);refine(B9 hc).imp_of_mem fun{x y} hx hy hxy=>?_
 have vx:=h x (hp.subset hx);have vy:=h y (hp.subset hy);rw[gT vy vx]at hxy;have:=aZ.anti x y;omega
theorem GN{l:List Bs}(h:∀a∈l,aj a=true):kQ AQ (l.map aI):=kQ.map (fun _ _ _ _=>rfl) (DR h)
/-! ### Maps by apex -/
def iD(g:Nat->D)(m:List (Bs×Nat)):List (Bs×D):=m.map fun p=>(p.1,g p.2)
theorem Cj(g:Nat->D)(a:Bs):∀m,cB a (iD g m)=(de a m).map g
 | []=>rfl
 | (b,i)::t=>by
  show(if a=b then _ else cB a (iD g t))=_
  unfold de;split
  . rfl
  . exact Cj g a t
theorem yu(g:Nat->D)(a:Bs)(i:Nat):∀m,cG a (g i) (iD g m)=iD g (dX a i m)
 | []=>rfl
 | (b,j)::t=>by
  show(if a=b then _ else _::cG a _ (iD g t))=_
  unfold dX;split
  . rfl
  . rw[yu g a i t];rfl
theorem Ev(g:Nat->D)(a:Bs):∀m,fT (.str a) ((iD g m).map gi)=some ((de a m).map g)
 | []=>rfl
 | (b,i)::t=>by
  show(match fo (.str a) [.tuple [.str b]]with | some true=>_ | some false=>fT (.str a) ((iD g t).map gi) | none=>none)=_
  have:fo (.str a) [.tuple [.str b]]=some (a==b):=rfl;rw[this];unfold de;by_cases h:a=b
  . subst h;simp
  . have:(a==b)=false:=by simp[h]
    rw[this,if_neg h];exact Ev g a t
def dK(m:List (Bs×Nat)):List Bs:=m.map (·.1)
theorem tj(a:Bs):∀m,a∈dK m ↔ (de a m).isSome=true
 | []=>by simp[dK,de]
 | (b,i)::t=>by
  unfold dK de;rw[List.map_cons,List.mem_cons];by_cases h:a=b
  . rw[if_pos h];simp[h]
  . rw[if_neg h, <- tj a t];simp[h,dK]
theorem zt(a:Bs)(i:Nat):∀m,dK (dX a i m)=if (de a m).isSome=true then dK m else dK m++[a]
 | []=>by simp[dK,dX,de]
 | (b,j)::t=>by
  unfold dX de;by_cases h:a=b
  . rw[if_pos h,if_pos h];simp[dK]
  . rw[if_neg h,if_neg h];have ih:=zt a i t;unfold dK at ih ⊢;rw[List.map_cons,ih];split <;> simp
theorem F7{a:Bs}{i:Nat}{m:List (Bs×Nat)}(h:(dK m).Nodup):(dK (dX a i m)).Nodup:=by
 rw[zt];split
 . exact h
 . rename_i hn;refine List.nodup_append.2 ⟨h,by simp,fun x hx y hy=>?_⟩;rw[List.mem_singleton]at hy;subst hy;rintro rfl;exact hn ((tj _ m).1 hx)
theorem tr(zs:List ai):∀(l:List ai) (i:Nat) (m:List (Bs×Nat)),(dK m).Nodup->(dK (fW zs i l m)).Nodup
 | [],_,_,h=>h
 | p::t,i,m,h=>by
  show(dK (fW zs (i+1) t (if dG zs m p=true then dX p.zone.apex i m else m))).Nodup
  refine tr zs t (i+1) _ ?_;split
  . exact F7 h
  . exact h
theorem tu(zs:List ai):(dK (cw zs)).Nodup:=tr zs zs 0 [] (by simp[dK])
theorem jQ(zs:List ai)(a:Bs):a∈dK (cw zs) ↔ (ck zs a).isSome=true:=by
 rw[tj,nA];cases ck zs a <;> rfl
theorem yW{zs:List ai}{a:Bs}:a∈dK (cw zs) ↔ ∃p∈zs,p.zone.apex=a:=by
 rw[jQ];cases h:ck zs a with
 | none =>
  have:=(yE zs 0 none).1 h;simp only[Option.isSome_none,av,false_iff];rintro⟨p,hp,ha⟩;have:=this.2 p hp;simp[ha]at this
 | some x =>
  simp only[Option.isSome_some,true_iff];have h1:=(nz zs) a x.1 (by rw[nA,h];rfl);obtain⟨p,hp,ha⟩:=h1;exact⟨p,ao hp,ha⟩
theorem Cf(a:Bs)(i:Nat):∀m,(dX a i m).length<=m.length+1
 | []=>by simp[dX]
 | (b,j)::t=>by
  unfold dX;split
  . simp
  . have:=Cf a i t;simp;omega
theorem xx(zs:List ai):∀(l:List ai) (i:Nat) (m:List (Bs×Nat)),(fW zs i l m).length<=m.length+l.length
 | [],_,_=>Nat.le_refl _
 | p::t,i,m=>by
  show(fW zs (i+1) t (if dG zs m p=true then dX p.zone.apex i m else m)).length<=_
  have h1:=xx zs t (i+1) (if dG zs m p=true then dX p.zone.apex i m else m);have h2:(if dG zs m p=true then dX p.zone.apex i m else m).length<=m.length+1:=by
   split
   . exact Cf _ _ _
   . omega
  simp only[List.length_cons];omega
theorem xy(zs:List ai):(cw zs).length<=zs.length:=by have:=xx zs zs 0 [];simpa [cw] using this
def aU(zs:List ai):List Bs:=ic (dK (cw zs))
end NP
