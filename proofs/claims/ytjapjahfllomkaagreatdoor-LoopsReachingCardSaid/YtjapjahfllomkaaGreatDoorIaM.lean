/-
  Sorting names; the copies of a world by apex, as maps. Plain.
-/
import Derived.Test.YtjapjahfllomkaaGreatDoorAbM
import Derived.Test.YtjapjahfllomkaaGreatDoorMGk
import Derived.Test.YtjapjahfllomkaaGreatDoorQmkM
set_option linter.all false
set_option maxRecDepth 100000
namespace NP
open NQ Go
def qh(a:Bs):List Bs->List Bs
 | []=>[a]
 | b::t=>if aL a b<=0 then a::b::t else b::qh a t
def gE:List Bs->List Bs
 | []=>[]
 | a::t=>qh a (gE t)
theorem lW(a:Bs):∀l,(qh a l).Perm (a::l)
 | []=> .refl _
 | b::t=>by
  unfold qh;split
  . exact .refl _
  . exact((lW a t).cons b).trans (.swap a b t)
theorem fE:∀l,(gE l).Perm l
 | []=> .refl _
 | a::t=>(lW a _).trans ((fE t).cons a)
theorem FB(a b:Bs)(h:¬aL a b<=0):aL b a<=0:=by
 have:=aY.anti a b;omega
theorem qi(a:Bs):∀l,l.Pairwise (fun a b=>aL a b<=0)->(qh a l).Pairwise fun a b=>aL a b<=0
 | [],_=>List.pairwise_singleton _ _
 | b::t,h=>by
  unfold qh;have h' :=List.pairwise_cons.1 h;split
  . rename_i hab;refine List.pairwise_cons.2 ⟨fun x hx=>?_,h⟩;rcases List.mem_cons.1 hx with rfl | hx
    . exact hab
    . exact aY.le_trans hab (h'.1 x hx)
  . rename_i hab;refine List.pairwise_cons.2 ⟨fun x hx=>?_,qi a t h'.2⟩;rcases List.mem_cons.1 ((lW a t).subset hx)with rfl | hx
    . exact FB _ _ hab
    . exact h'.1 x hx
theorem gS:∀l,(gE l).Pairwise fun a b=>aL a b<=0
 | []=>List.Pairwise.nil
 | a::t=>qi a _ (gS t)
theorem qt{l l' :List Bs}(hp:l.Perm l')(h:l.Pairwise fun a b=>aL a b<=0)(h' :l'.Pairwise fun a b=>aL a b<=0):l=l' :=
 List.Perm.eq_of_pairwise (le:=fun a b=>aL a b<=0) (fun a b _ _ h1 h2=>(aY.zero a b).1 (by have:=aY.anti a b;omega)) h h' hp
theorem D6{l l' :List Bs}(hp:l.Perm l'):gE l=gE l' :=
 qt (((fE l).trans hp).trans (fE l').symm) (gS l) (gS l')
theorem zE{a:Bs}{l:List Bs}:a∈gE l ↔ a∈l:=(fE l).mem_iff
theorem D7{l:List Bs}(h:l.Nodup):(gE l).Pairwise fun a b=>aL a b= -1:=by
 have hn:(gE l).Nodup:=(fE l).nodup_iff.2 h;refine((gS l).and hn).imp fun{a b} ⟨h1,h2⟩=>?_
 rcases aY.range a b with e | e | e
 . exact e
 . exact absurd ((aY.zero a b).1 e) h2
 . omega
def Bi(x y:List D):Int:=match x,y with | [.str a],[.str b]=>(bP a b).1 | _,_=>0
theorem ir{a b:Bs}(ha:an a=true)(hb:an b=true):(bP a b).1=aL a b:=by
 unfold bP;rw[if_pos ⟨ha,hb⟩]
theorem Ez{l:List Bs}(h:∀a∈l,an a=true):lz (fun a b=>(bP a b).1) l:=by
 refine⟨fun x hx=>?_,fun x hx y hy z hz=>?_,fun x hx y hy z hz=>?_⟩
 . show ¬(bP x x).1<0
   rw[ir (h x hx) (h x hx),(aY.zero x x).2 rfl];decide
 . show(bP x y).1<0->(bP y z).1<0->(bP x z).1<0
   rw[ir (h x hx) (h y hy),ir (h y hy) (h z hz),ir (h x hx) (h z hz)];intro h1 h2;exact aY.OI h1 (by omega)
 . show ¬(bP x y).1<0-> ¬(bP y z).1<0-> ¬(bP x z).1<0
   rw[ir (h x hx) (h y hy),ir (h y hy) (h z hz),ir (h x hx) (h z hz)];intro h1 h2 h3;have a1:=aY.anti x y;have a2:=aY.anti y z;have:=aY.le_trans (a:=z) (b:=y) (c:=x) (by omega) (by omega);have a3:=aY.anti x z;omega
theorem D8{l:List Bs}(h:∀a∈l,an a=true):mC Bi (l.map au)=(gE l).map au:=by
 rw[Jk au (fun a b=>(bP a b).1) Bi l fun x _ y _=>rfl]
 congr 1
 have hc:=Ez h;have hp:=si hc;refine qt (hp.trans (fE l).symm) ?_ (gS l);refine(CD hc).imp_of_mem fun{x y} hx hy hxy=>?_
 have vx:=h x (hp.subset hx);have vy:=h y (hp.subset hy);rw[ir vy vx]at hxy;have:=aY.anti x y;omega
theorem Hq{l:List Bs}(h:∀a∈l,an a=true):lz Bi (l.map au):=lz.map (fun _ _ _ _=>rfl) (Ez h)
/-! ### Maps by apex -/
def iT(g:Nat->D)(m:List (Bs×Nat)):List (Bs×D):=m.map fun p=>(p.1,g p.2)
theorem CN(g:Nat->D)(a:Bs):∀m,cJ a (iT g m)=(er a m).map g
 | []=>rfl
 | (b,i)::t=>by
  show(if a=b then _ else cJ a (iT g t))=_
  unfold er;split
  . rfl
  . exact CN g a t
theorem y2(g:Nat->D)(a:Bs)(i:Nat):∀m,cM a (g i) (iT g m)=iT g (fy a i m)
 | []=>rfl
 | (b,j)::t=>by
  show(if a=b then _ else _::cM a _ (iT g t))=_
  unfold fy;split
  . rfl
  . rw[y2 g a i t];rfl
theorem Fb(g:Nat->D)(a:Bs):∀m,iD (.str a) ((iT g m).map iH)=some ((er a m).map g)
 | []=>rfl
 | (b,i)::t=>by
  show(match gA (.str a) [.tuple [.str b]]with | some true=>_ | some false=>iD (.str a) ((iT g t).map iH) | none=>none)=_
  have:gA (.str a) [.tuple [.str b]]=some (a==b):=rfl;rw[this];unfold er;by_cases h:a=b
  . subst h;simp
  . have:(a==b)=false:=by simp[h]
    rw[this,if_neg h];exact Fb g a t
def dK(m:List (Bs×Nat)):List Bs:=m.map (·.1)
theorem tX(a:Bs):∀m,a∈dK m ↔ (er a m).isSome=true
 | []=>by simp[dK,er]
 | (b,i)::t=>by
  unfold dK er;rw[List.map_cons,List.mem_cons];by_cases h:a=b
  . rw[if_pos h];simp[h]
  . rw[if_neg h, <- tX a t];simp[h,dK]
theorem Aa(a:Bs)(i:Nat):∀m,dK (fy a i m)=if (er a m).isSome=true then dK m else dK m++[a]
 | []=>by simp[dK,fy,er]
 | (b,j)::t=>by
  unfold fy er;by_cases h:a=b
  . rw[if_pos h,if_pos h];simp[dK]
  . rw[if_neg h,if_neg h];have ih:=Aa a i t;unfold dK at ih ⊢;rw[List.map_cons,ih];split <;> simp
theorem GJ{a:Bs}{i:Nat}{m:List (Bs×Nat)}(h:(dK m).Nodup):(dK (fy a i m)).Nodup:=by
 rw[Aa];split
 . exact h
 . rename_i hn;refine List.nodup_append.2 ⟨h,by simp,fun x hx y hy=>?_⟩;rw[List.mem_singleton]at hy;subst hy;rintro rfl;exact hn ((tX _ m).1 hx)
theorem tZ(zs:List ag):∀(l:List ag) (i:Nat) (m:List (Bs×Nat)),(dK m).Nodup->(dK (iF zs i l m)).Nodup
 | [],_,_,h=>h
 | p::t,i,m,h=>by
  show(dK (iF zs (i+1) t (if gr zs m p=true then fy p.zone.apex i m else m))).Nodup
  refine tZ zs t (i+1) _ ?_;split
  . exact GJ h
  . exact h
theorem mE(zs:List ag):(dK (dw zs)).Nodup:=tZ zs zs 0 [] (by simp[dK])
theorem gI(zs:List ag)(a:Bs):a∈dK (dw zs) ↔ (bU zs a).isSome=true:=by
 rw[tX,pW];cases bU zs a <;> rfl
theorem tw{zs:List ag}{a:Bs}:a∈dK (dw zs) ↔ ∃p∈zs,p.zone.apex=a:=by
 rw[gI];cases h:bU zs a with
 | none =>
  have:=(pz zs 0 none).1 h;simp only[Option.isSome_none,aB,false_iff];rintro⟨p,hp,ha⟩;have:=this.2 p hp;simp[ha]at this
 | some x =>
  simp only[Option.isSome_some,true_iff];have h1:=(Ac zs) a x.1 (by rw[pW,h];rfl);obtain⟨p,hp,ha⟩:=h1;exact⟨p,ar hp,ha⟩
theorem CJ(a:Bs)(i:Nat):∀m,(fy a i m).length<=m.length+1
 | []=>by simp[fy]
 | (b,j)::t=>by
  unfold fy;split
  . simp
  . have:=CJ a i t;simp;omega
theorem x6(zs:List ag):∀(l:List ag) (i:Nat) (m:List (Bs×Nat)),(iF zs i l m).length<=m.length+l.length
 | [],_,_=>Nat.le_refl _
 | p::t,i,m=>by
  show(iF zs (i+1) t (if gr zs m p=true then fy p.zone.apex i m else m)).length<=_
  have h1:=x6 zs t (i+1) (if gr zs m p=true then fy p.zone.apex i m else m);have h2:(if gr zs m p=true then fy p.zone.apex i m else m).length<=m.length+1:=by
   split
   . exact CJ _ _ _
   . omega
  simp only[List.length_cons];omega
theorem x7(zs:List ag):(dw zs).length<=zs.length:=by have:=x6 zs zs 0 [];simpa [dw] using this
def aw(zs:List ag):List Bs:=gE (dK (dw zs))
end NP
