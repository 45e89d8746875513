/-
  slices.SortFunc at rows of structs: what it does to a row of the caller's. Generic over every program that bears it.
-/
import Derived.Test.YtjapjahfllomkaaGreatDoorAbM
import Derived.Test.YtjapjahfllomkaaGreatDoorMQn
import Derived.Test.YtjapjahfllomkaaGreatDoorDrM
import Derived.Shelf.SlSortCmp.WholeK
import Derived.Shelf.SlSortCmp.NoneTotal
set_option linter.all false
namespace NQ
open Go Go.RowKit Go.Sort Go.Proofs Go.Shelf
def cfN{α:Type}(c:α->α->Int)(l:List α)(i j:Nat):Int:=match l[i]?, l[j]? with | some x,some y=>c x y | _,_=>0
def nx(n:Nat)(cf:Nat->Nat->Int)(h:0<n):Array (Fin n) :=
 letI:Inhabited (Fin n):=⟨⟨0,h⟩⟩
 pdq (ltOf fun i j:Fin n=>cf i j) (Array.ofFn id) 0 n (Lib.bitLen n) true true
def Mu(n:Nat)(cf:Nat->Nat->Int):List Nat:=if h:0<n then(nx n cf h).toList.map Fin.val else[]
def mC{α:Type}(c:α->α->Int)(l:List α):List α:=(Mu l.length (cfN c l)).filterMap (l[·]?)
def lz{α:Type}(c:α->α->Int)(l:List α):Prop :=
 (∀x∈l,¬c x x<0)/\(∀x∈l,∀y∈l,∀z∈l,c x y<0->c y z<0->c x z<0)/\(∀x∈l,∀y∈l,∀z∈l,¬c x y<0-> ¬c y z<0-> ¬c x z<0)
theorem qC{α:Type}{c:α->α->Int}{l:List α}(i j:Fin l.length):cfN c l i j=c l[i] l[j]:=by
 unfold cfN;rw[ah i.2,ah j.2];rfl
theorem lz.swo{α:Type}{c:α->α->Int}{l:List α}(h:lz c l):SWO (ltOf fun i j:Fin l.length=>cfN c l i j):=by
 have m:∀i:Fin l.length,l[i]∈l:=fun i=>List.getElem_mem i.2
 refine⟨fun x=>?_,fun x y z a b=>?_,fun x y z a b=>?_⟩
 . have:=h.1 _ (m x);simp only[ltOf,qC,decide_eq_false_iff_not];exact this
 . simp only[ltOf,decide_eq_true_eq,qC]at *;exact h.2.1 _ (m x) _ (m y) _ (m z) a b
 . simp only[ltOf,decide_eq_false_iff_not,qC]at *;exact h.2.2 _ (m x) _ (m y) _ (m z) a b
theorem sh{α:Type}{c:α->α->Int}{l:List α}(h:0<l.length)(hc:lz c l) :
 (nx l.length (cfN c l) h).size=l.length/\(nx l.length (cfN c l) h).toList.Perm (List.finRange l.length)/\(nx l.length (cfN c l) h).toList.Pairwise fun i j=> ¬c l[j] l[i]<0:=by
 letI:Inhabited (Fin l.length):=⟨⟨0,h⟩⟩
 have hsz:(Array.ofFn (id:Fin l.length->Fin l.length)).size=l.length:=by simp
 have hp:=pdq_sorts (ltOf fun i j:Fin l.length=>cfN c l i j) hc.swo (Array.ofFn id) 0 l.length (Lib.bitLen l.length) true true (Nat.zero_le _) (by rw[hsz];exact Nat.le_refl _) (Or.inl rfl);obtain⟨⟨p1,p2,p3⟩,p4⟩:=hp;have e:nx l.length (cfN c l) h=pdq (ltOf fun i j:Fin l.length=>cfN c l i j) (Array.ofFn id) 0 l.length (Lib.bitLen l.length) true true:=rfl;rw[<- e]at p1 p2 p3 p4;rw[hsz]at p1;generalize nx l.length (cfN c l) h=q at *
 refine⟨p1,?_,?_⟩
 . have aux:∀{n m:Nat} {q:Array (Fin n)},q.size=m->q.extract 0 m=q:=by rintro n _ q rfl;simp
   have a1:=aux p1;have a2:=aux hsz;rw[a1,a2]at p3;refine p3.trans (List.Perm.of_eq ?_);rw[Array.toList_ofFn,List.finRange];rfl
 . rw[List.pairwise_iff_getElem];intro i j hi hj hij;have:=p4 i j (Nat.zero_le _) hij (by rw[<- p1];simpa using hj);rw[getElem!_pos _ i (by simpa using hi),getElem!_pos _ j (by simpa using hj)]at this;simp only[ltOf,qC,decide_eq_false_iff_not]at this;simpa using this
theorem wL{α:Type}(c:α->α->Int)(l:List α)(h:0<l.length):mC c l=(nx l.length (cfN c l) h).toList.map fun i=>l[i]:=by
 unfold mC Mu;rw[dif_pos h];generalize (nx l.length (cfN c l) h).toList=q;induction q with
 | nil=>rfl
 | cons i q ih =>
  rw[List.map_cons,List.filterMap_cons,ah i.2];simp only[List.map_cons];rw[ih];rfl
theorem z8{α:Type}(c:α->α->Int):mC c ([]:List α)=[]:=rfl
theorem si{α:Type}{c:α->α->Int}{l:List α}(hc:lz c l):(mC c l).Perm l:=by
 by_cases h:0<l.length
 . rw[wL c l h];refine((sh h hc).2.1.map fun i=>l[i]).trans (List.Perm.of_eq ?_);apply List.ext_getElem
   . simp
   . intro i h1 h2;simp
 . obtain rfl:l=[]:=List.eq_nil_of_length_eq_zero (by omega);exact List.Perm.nil
theorem CD{α:Type}{c:α->α->Int}{l:List α}(hc:lz c l):(mC c l).Pairwise fun x y=> ¬c y x<0:=by
 by_cases h:0<l.length
 . rw[wL c l h,List.pairwise_map];exact(sh h hc).2.2
 . obtain rfl:l=[]:=List.eq_nil_of_length_eq_zero (by omega);exact List.Pairwise.nil
theorem Jk{α β:Type}(f:α->β)(c:α->α->Int)(c' :β->β->Int)(l:List α)(h:∀x∈l,∀y∈l,c' (f x) (f y)=c x y):mC c' (l.map f)=(mC c l).map f:=by
 have e:cfN c' (l.map f)=cfN c l:=by
  funext i j
  unfold cfN;rw[aV,aV];cases hi:l[i]? with
  | none=>rfl
  | some x =>
   cases hj:l[j]? with
   | none=>rfl
   | some y=>exact h x (ar hi) y (ar hj)
 unfold mC;rw[e,ao,List.map_filterMap]
 congr 1
 funext i
 rw[aV]
theorem lz.map{α β:Type}{f:α->β}{c:α->α->Int}{c' :β->β->Int}{l:List α}(h:∀x∈l,∀y∈l,c' (f x) (f y)=c x y)(hc:lz c l):lz c' (l.map f):=by
 refine⟨fun x hx=>?_,fun x hx y hy z hz=>?_,fun x hx y hy z hz=>?_⟩
 . obtain⟨a,ha,rfl⟩:=List.mem_map.1 hx;rw[h a ha a ha];exact hc.1 a ha
 . obtain⟨a,ha,rfl⟩:=List.mem_map.1 hx;obtain⟨b,hb,rfl⟩:=List.mem_map.1 hy;obtain⟨d,hd,rfl⟩:=List.mem_map.1 hz;rw[h a ha b hb,h b hb d hd,h a ha d hd];exact hc.2.1 a ha b hb d hd
 . obtain⟨a,ha,rfl⟩:=List.mem_map.1 hx;obtain⟨b,hb,rfl⟩:=List.mem_map.1 hy;obtain⟨d,hd,rfl⟩:=List.mem_map.1 hz;rw[h a ha b hb,h b hb d hd,h a ha d hd];exact hc.2.2 a ha b hb d hd
section
variable {k n:Nat} {xs:List Value}
end
end NQ
