/-
  Sorting names; the copies of a world by apex, as maps. Plain.
-/
import Derived.Test.YtcecidfnchcagaaGreatDoorMGk
import Derived.Test.YtcecidfnchcagaaGreatDoorMLrc
import Derived.Test.YtcecidfnchcagaaGreatDoorQmkM
set_option linter.all false
set_option maxRecDepth 100000
namespace NP
open NQ Go
def pk(a:Bs):List Bs->List Bs
 | []=>[a]
 | b::t=>if au a b<=0 then a::b::t else b::pk a t
def gO:List Bs->List Bs
 | []=>[]
 | a::t=>pk a (gO t)
theorem kP(a:Bs):∀l,(pk a l).Perm (a::l)
 | []=> .refl _
 | b::t=>by
  unfold pk;split
  . exact .refl _
  . exact((kP a t).cons b).trans (.swap a b t)
theorem dR:∀l,(gO l).Perm l
 | []=> .refl _
 | a::t=>(kP a _).trans ((dR t).cons a)
theorem E8(a b:Bs)(h:¬au a b<=0):au b a<=0:=by
 have:=aG.anti a b;omega
theorem pn(a:Bs):∀l,l.Pairwise (fun a b=>au a b<=0)->(pk a l).Pairwise fun a b=>au a b<=0
 | [],_=>List.pairwise_singleton _ _
 | b::t,h=>by
  unfold pk;have h' :=List.pairwise_cons.1 h;split
  . rename_i hab;refine List.pairwise_cons.2 ⟨fun x hx=>?_,h⟩;rcases List.mem_cons.1 hx with rfl | hx
    . exact hab
    . exact aG.le_trans hab (h'.1 x hx)
  . rename_i hab;refine List.pairwise_cons.2 ⟨fun x hx=>?_,pn a t h'.2⟩;rcases List.mem_cons.1 ((kP a t).subset hx)with rfl | hx
    . exact E8 _ _ hab
    . exact h'.1 x hx
theorem eR:∀l,(gO l).Pairwise fun a b=>au a b<=0
 | []=>List.Pairwise.nil
 | a::t=>pn a _ (eR t)
theorem ml{l l' :List Bs}(hp:l.Perm l')(h:l.Pairwise fun a b=>au a b<=0)(h' :l'.Pairwise fun a b=>au a b<=0):l=l' :=
 List.Perm.eq_of_pairwise (le:=fun a b=>au a b<=0) (fun a b _ _ h1 h2=>(aG.zero a b).1 (by have:=aG.anti a b;omega)) h h' hp
theorem Dy{l l' :List Bs}(hp:l.Perm l'):gO l=gO l' :=
 ml (((dR l).trans hp).trans (dR l').symm) (eR l) (eR l')
theorem yU{a:Bs}{l:List Bs}:a∈gO l ↔ a∈l:=(dR l).mem_iff
def AJ(x y:List D):Int:=match x,y with | [.str a],[.str b]=>(bf a b).1 | _,_=>0
theorem gF{a b:Bs}(ha:ai a=true)(hb:ai b=true):(bf a b).1=au a b:=by
 unfold bf;rw[if_pos ⟨ha,hb⟩]
theorem DU{l:List Bs}(h:∀a∈l,ai a=true):ky (fun a b=>(bf a b).1) l:=by
 refine⟨fun x hx=>?_,fun x hx y hy z hz=>?_,fun x hx y hy z hz=>?_⟩
 . show ¬(bf x x).1<0
   rw[gF (h x hx) (h x hx),(aG.zero x x).2 rfl];decide
 . show(bf x y).1<0->(bf y z).1<0->(bf x z).1<0
   rw[gF (h x hx) (h y hy),gF (h y hy) (h z hz),gF (h x hx) (h z hz)];intro h1 h2;exact aG.N1 h1 (by omega)
 . show ¬(bf x y).1<0-> ¬(bf y z).1<0-> ¬(bf x z).1<0
   rw[gF (h x hx) (h y hy),gF (h y hy) (h z hz),gF (h x hx) (h z hz)];intro h1 h2 h3;have a1:=aG.anti x y;have a2:=aG.anti y z;have:=aG.le_trans (a:=z) (b:=y) (c:=x) (by omega) (by omega);have a3:=aG.anti x z;omega
theorem Dz{l:List Bs}(h:∀a∈l,ai a=true):lD AJ (l.map ao)=(gO l).map ao:=by
 rw[IM ao (fun a b=>(bf a b).1) AJ l fun x _ y _=>rfl]
 congr 1
 have hc:=DU h;have hp:=rl hc;refine ml (hp.trans (dR l).symm) ?_ (eR l);refine(B4 hc).imp_of_mem fun{x y} hx hy hxy=>?_
 have vx:=h x (hp.subset hx);have vy:=h y (hp.subset hy);rw[gF vy vx]at hxy;have:=aG.anti x y;omega
theorem GW{l:List Bs}(h:∀a∈l,ai a=true):ky AJ (l.map ao):=ky.map (fun _ _ _ _=>rfl) (DU h)
/-! ### Maps by apex -/
def ik(g:Nat->D)(m:List (Bs×Nat)):List (Bs×D):=m.map fun p=>(p.1,g p.2)
theorem Cj(g:Nat->D)(a:Bs):∀m,bJ a (ik g m)=(cF a m).map g
 | []=>rfl
 | (b,i)::t=>by
  show(if a=b then _ else bJ a (ik g t))=_
  unfold cF;split
  . rfl
  . exact Cj g a t
theorem ym(g:Nat->D)(a:Bs)(i:Nat):∀m,bM a (g i) (ik g m)=ik g (du a i m)
 | []=>rfl
 | (b,j)::t=>by
  show(if a=b then _ else _::bM a _ (ik g t))=_
  unfold du;split
  . rfl
  . rw[ym g a i t];rfl
theorem EE(g:Nat->D)(a:Bs):∀m,fj (.str a) ((ik g m).map fy)=some ((cF a m).map g)
 | []=>rfl
 | (b,i)::t=>by
  show(match eH (.str a) [.tuple [.str b]]with | some true=>_ | some false=>fj (.str a) ((ik g t).map fy) | none=>none)=_
  have:eH (.str a) [.tuple [.str b]]=some (a==b):=rfl;rw[this];unfold cF;by_cases h:a=b
  . subst h;simp
  . have:(a==b)=false:=by simp[h]
    rw[this,if_neg h];exact EE g a t
def cY(m:List (Bs×Nat)):List Bs:=m.map (·.1)
theorem s8(a:Bs):∀m,a∈cY m ↔ (cF a m).isSome=true
 | []=>by simp[cY,cF]
 | (b,i)::t=>by
  unfold cY cF;rw[List.map_cons,List.mem_cons];by_cases h:a=b
  . rw[if_pos h];simp[h]
  . rw[if_neg h, <- s8 a t];simp[h,cY]
theorem zm(a:Bs)(i:Nat):∀m,cY (du a i m)=if (cF a m).isSome=true then cY m else cY m++[a]
 | []=>by simp[cY,du,cF]
 | (b,j)::t=>by
  unfold du cF;by_cases h:a=b
  . rw[if_pos h,if_pos h];simp[cY]
  . rw[if_neg h,if_neg h];have ih:=zm a i t;unfold cY at ih ⊢;rw[List.map_cons,ih];split <;> simp
theorem Gi{a:Bs}{i:Nat}{m:List (Bs×Nat)}(h:(cY m).Nodup):(cY (du a i m)).Nodup:=by
 rw[zm];split
 . exact h
 . rename_i hn;refine List.nodup_append.2 ⟨h,by simp,fun x hx y hy=>?_⟩;rw[List.mem_singleton]at hy;subst hy;rintro rfl;exact hn ((s8 _ m).1 hx)
theorem tc(zs:List ag):∀(l:List ag) (i:Nat) (m:List (Bs×Nat)),(cY m).Nodup->(cY (fk zs i l m)).Nodup
 | [],_,_,h=>h
 | p::t,i,m,h=>by
  show(cY (fk zs (i+1) t (if cT zs m p=true then du p.zone.apex i m else m))).Nodup
  refine tc zs t (i+1) _ ?_;split
  . exact Gi h
  . exact h
theorem jN(zs:List ag):(cY (bC zs)).Nodup:=tc zs zs 0 [] (by simp[cY])
theorem cj(zs:List ag)(a:Bs):a∈cY (bC zs) ↔ (aN zs a).isSome=true:=by
 rw[s8,o7];cases aN zs a <;> rfl
theorem sH{zs:List ag}{a:Bs}:a∈cY (bC zs) ↔ ∃p∈zs,p.zone.apex=a:=by
 rw[cj];cases h:aN zs a with
 | none =>
  have:=(rS zs 0 none).1 h;simp only[Option.isSome_none,Bool.false_eq_true,false_iff];rintro⟨p,hp,ha⟩;have:=this.2 p hp;simp[ha]at this
 | some x =>
  simp only[Option.isSome_some,true_iff];have h1:=(o6 zs) a x.1 (by rw[o7,h];rfl);obtain⟨p,hp,ha⟩:=h1;exact⟨p,List.mem_of_getElem? hp,ha⟩
theorem Cc(a:Bs)(i:Nat):∀m,(du a i m).length<=m.length+1
 | []=>by simp[du]
 | (b,j)::t=>by
  unfold du;split
  . simp
  . have:=Cc a i t;simp;omega
theorem xo(zs:List ag):∀(l:List ag) (i:Nat) (m:List (Bs×Nat)),(fk zs i l m).length<=m.length+l.length
 | [],_,_=>Nat.le_refl _
 | p::t,i,m=>by
  show(fk zs (i+1) t (if cT zs m p=true then du p.zone.apex i m else m)).length<=_
  have h1:=xo zs t (i+1) (if cT zs m p=true then du p.zone.apex i m else m);have h2:(if cT zs m p=true then du p.zone.apex i m else m).length<=m.length+1:=by
   split
   . exact Cc _ _ _
   . omega
  simp only[List.length_cons];omega
theorem xp(zs:List ag):(bC zs).length<=zs.length:=by have:=xo zs zs 0 [];simpa [bC] using this
def ar(zs:List ag):List Bs:=gO (cY (bC zs))
end NP
