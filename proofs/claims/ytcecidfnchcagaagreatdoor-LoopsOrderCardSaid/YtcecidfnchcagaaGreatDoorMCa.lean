/-
  Texts of the proof, merged in build order.
-/
import Derived.Test.YtcecidfnchcagaaGreatDoorMVa
import Derived.Test.YtcecidfnchcagaaGreatDoorTyM
import Derived.WalkKit
import Derived.Deep.LoopGhost
import Derived.Deep.RegionLaw
import Derived.Lib.Walk
import Derived.Lib.SliceRun
import Derived.Lib.SlicesDelete
import Derived.Shelf.RegionOpenPlain
import Derived.Lib.Hide
import Derived.Test.YtcecidfnchcagaaGreatDoorQzM
import Derived.Lib.AppendZerosOnto
import Derived.Laws.NewBlocks
import Derived.Shelf.Spec.SlicesInsert
import Derived.Test.YtcecidfnchcagaaGreatDoorMQt
set_option linter.all false
set_option maxRecDepth 100000
namespace NP
open NQ Go
def qn:Signed:=⟨⟨[],0,0,[]⟩,[]⟩
def Small(s:Signed):Prop:=s.set.data.length<=100000/\s.sigs.length<=100000
def lf(z:aA)(q:aI):Signed×Bool×Int :=
 if (!bu q|| !aV z)=true then(qn,false,1)else if (!cv z.sets q)=true then(qn,false,0)else((z.sets[posOf z.sets q]?).getD qn,true,0)
theorem sG{l:List Sig}{a:Bs}(h:eu l a=true):l.length<=6:=by
 simp[eu]at h;omega
theorem xh{s:eZ}(h:dt s=true):s.data.length<=8:=by
 unfold dt at h;simp only[Bool.and_eq_true,Bool.not_eq_true',Bool.or_eq_false_iff,Bool.not_eq_false']at h;have:=h.1.1.2;simp[within]at this;omega
theorem pG{z:aA}(h:aV z=true):∀s∈z.sets,Small s:=fun s hs=>by
 have ho:=aU h;refine⟨by have:=xh (ho.set s hs);omega,?_⟩;simp only[aV,Bool.and_eq_true]at h;have hf:=h.2.2;simp only[ma,List.all_eq_true]at hf;obtain⟨i,hi,rfl⟩:=List.getElem_of_mem hs;have:=hf i (List.mem_range.2 hi);simp only[kC,List.getElem?_eq_getElem hi]at this;have:=sG this;omega
end NP
namespace Go.Proofs.YtcecidfnchcagaaGreatDoor
open NQ Go NP Go.RowKit
theorem AH(rows:List (List D))(hl:rows.length<=100000):NQ.Fn cx 175 [.slice 3 rows] (.d (.slice 3 rows)) []:=by
 refine av aH mixed Tryz.func175 (by kernel_rfl) rfl (Nat.le_of_ble_eq_true rfl) ?_;conv=>whnf
 refine⟨fun h=>?_,?_⟩
 . refine af rfl ?_;rw[List.isEmpty_iff.1 h];rfl
 . conv=>whnf
   refine⟨by(show 0+rows.length<=_;omega),by(show(0+rows.length)*32<=_;omega),?_⟩
   conv=>whnf
   exact af rfl rfl
theorem AI(rows:List (List D))(hl:rows.length<=100000):NQ.Fn cx 176 [.slice 6 rows] (.d (.slice 6 rows)) []:=by
 refine av aH mixed Tryz.func176 (by kernel_rfl) rfl (Nat.le_of_ble_eq_true rfl) ?_;conv=>whnf
 refine⟨fun h=>?_,?_⟩
 . refine af rfl ?_;rw[List.isEmpty_iff.1 h];rfl
 . conv=>whnf
   refine⟨by(show 0+rows.length<=_;omega),by(show(0+rows.length)*56<=_;omega),?_⟩
   conv=>whnf
   exact af rfl rfl
end Go.Proofs.YtcecidfnchcagaaGreatDoor
namespace NP
open NQ Go
def mT:aA:=⟨[],[]⟩
def qOf(s:Signed):aI:=⟨s.set.name,s.set.type⟩
def NZ(l:List Signed)(i:Nat)(s:Signed):List Signed:=l.take i++[s]++l.drop i
def KN(l:List Signed)(s:Signed):List Signed:=if cv l (qOf s)=true then l.set (posOf l (qOf s)) s else NZ l (posOf l (qOf s)) s
def qW(z:aA)(s:Signed):aA:=⟨z.apex,KN z.sets s⟩
def KO(z:aA)(s:Signed):aA×Int :=
 if (!dt s.set|| !aV z)=true then(mT,1)
 else if (!eu s.sigs z.apex)=true then(mT,30)
 else if (!(bd s.set.name z.apex).1)=true then(mT,20)
 else if (!fits s.set.type (s.set.name==z.apex))=true then(mT,22)
 else if (!cv z.sets (qOf s)&&decide ((z.sets.length:Int)>=20000))=true then(mT,2)
 else if (!aliases (qW z s))=true then(mT,21)
 else if (!la (qW z s) (bV (qW z s)))=true then(mT,20)
 else if (!mi (qW z s) (bV (qW z s)))=true then(mT,30)
 else(qW z s,0)
end NP
namespace Go.Proofs.YtcecidfnchcagaaGreatDoor
open NQ Go NP Go.RowKit
end Go.Proofs.YtcecidfnchcagaaGreatDoor
namespace NP
open NQ Go
theorem Ml{s:Bs}(h:ai s=true):(aM s).length<=8:=by
 have:=mR h;simp[okL]at this;exact this.1
theorem ou{s:Bs}(h:ai s=true):s ≠ []:=by rintro rfl;revert h;decide
theorem yp{z:aA}{i:Nat}{s:Signed}(h:z.sets[i]? =some s)(ho:Ordered z):(bV z)[i]? =some (spec (bc z) s.set.name):=by
 rw[<- rR ho,rQ ho,List.getElem?_map,h];rfl
theorem JM{z:aA}(hv:aV z=true){s:Signed}(hs:s∈z.sets):ju s (spec (bc z) s.set.name)=false:=by
 have ho:=aU hv;obtain⟨i,hi⟩:=List.getElem?_of_mem hs;simp only[aV,Bool.and_eq_true]at hv;have hc:=hv.2.1.1.2;simp only[la,List.all_eq_true]at hc;have:=hc i (List.mem_range.2 (List.getElem?_eq_some_iff.1 hi).1);simp only[cutAt,hi,yp hi ho]at this;simpa using this
theorem jv(apex c:Bs):∀(l:List Signed),c∈bK apex l ↔ ∃s∈l,cO apex s=true/\s.set.name=c
 | []=>by simp[bK]
 | s::t=>by
  have ih:=jv apex c t;unfold bK;split
  . rename_i h;rw[List.mem_cons,ih];constructor
    . rintro(rfl | ⟨x,hx,k⟩)
      . exact⟨s,List.mem_cons_self .., h,rfl⟩
      . exact⟨x,List.mem_cons_of_mem _ hx,k⟩
    . rintro⟨x,hx,k1,k2⟩;rcases List.mem_cons.1 hx with rfl | hx
      . exact .inl k2.symm
      . exact .inr ⟨x,hx,k1,k2⟩
  . rename_i h;rw[ih];constructor
    . rintro⟨x,hx,k⟩;exact⟨x,List.mem_cons_of_mem _ hx,k⟩
    . rintro⟨x,hx,k1,k2⟩;rcases List.mem_cons.1 hx with rfl | hx
      . exact absurd k1 h
      . exact⟨x,hx,k1,k2⟩
theorem I3{s:Bs}(h:ai s=true):(s==[])=false:=by have:=ou h;simpa using this
theorem AP{z:aA}(hv:aV z=true){c:Bs}(hc:c∈bK z.apex z.sets):c∈bc z:=by
 have ho:=aU hv;obtain⟨hA,ha,hcov⟩:=jV ho;obtain⟨s,hs,hcut,rfl⟩:=(jv _ _ _).1 hc;obtain⟨g,hg,hu⟩:=hcov _ hc;have hsp:=kW hA ha hg hu;have hr:=JM hv hs;rw[hsp]at hr;have ht:s.set.type=2:=by simp[cO]at hcut;exact hcut.1
 unfold ju at hr;rw[if_neg (by rw[I3 (nk ho hg)];exact Bool.false_ne_true)]at hr;split at hr
 . rename_i e;rw[<- beq_iff_eq.1 e];exact hg
 . rw[ht]at hr;cases hr
theorem D4{z:aA}{n:Bs}(hne:n ≠ z.apex):cv z.sets ⟨n,2⟩=true ↔ n∈bK z.apex z.sets:=by
 rw[jv];simp only[cv,List.any_eq_true,is,Bool.and_eq_true,beq_iff_eq,cO,Bool.not_eq_true',beq_eq_false_iff_ne];constructor
 . rintro⟨s,hs,h1,h2⟩;exact⟨s,hs,⟨h2,by rw[h1];exact hne⟩,h1⟩
 . rintro⟨s,hs,⟨h1,_⟩,h2⟩;exact⟨s,hs,h2,h1⟩
theorem mo{a b c:Bs}(h:ax a b=true)(k:ax b c=true):ax a c=true:=by
 rw[cZ]at *; exact k.trans h
theorem nA{a b:Bs}(h:ax a b=true)(k:ax b a=true):a=b:=by
 rw[cZ]at *;exact vg ((k.eq_of_length (Nat.le_antisymm k.length_le h.length_le)))
theorem tj{n c:Bs}(hn:ai n=true)(h:ax n c=true)(hne:n ≠ c):ax (bT n) c=true:=(lZ hn h hne).2.1
theorem sR{n:Bs}(hn:ai n=true):ax n (bT n)=true:=by
 unfold ax;rw[uD hn];exact List.isSuffixOf_iff_suffix.2 (List.tail_suffix _)
theorem qG{z:aA}:∀{f:Nat} {n c:Bs},ai n=true->l8 z f n=some c->c∈bK z.apex z.sets/\ax n c=true
 | 0,n,c,_,h=>by simp[l8]at h
 | f+1,n,c,hv,h=>by
  unfold l8 at h;split at h
  . cases h
  . rename_i hne;split at h
    . rename_i hh;cases h;exact⟨(D4 hne).1 hh,fE n⟩
    . obtain⟨h1,h2⟩:=qG (ia hv) h;exact⟨h1,mo (sR hv) h2⟩
theorem wx{z:aA}(ho:Ordered z):∀{f:Nat} {n:Bs},ai n=true->ax n z.apex=true->f=(aM n).length+1->l8 z f n=none-> ∀c∈bK z.apex z.sets,ax n c=false
 | 0,n,_,_,hf,_=>by omega
 | f+1,n,hv,hu,hf,h=>by
  intro c hc;obtain⟨s,hs,hcut,hnm⟩:=(jv _ _ _).1 hc;have hca:ax c z.apex=true:=by
   have:=ho.under s hs;unfold bd at this;rw[if_pos ⟨ho.name s hs,ho.apex⟩]at this;rw[<- hnm];exact this
  have hne' :c ≠ z.apex:=by simp[cO]at hcut;rw[<- hnm];exact hcut.2
  unfold l8 at h;split at h
  . rename_i e;cases hun:ax n c with
    | false=>rfl
    | true=>rw[e]at hun;exact absurd (nA hca hun) hne'
  . rename_i hne;split at h
    . cases h
    . rename_i hh;obtain⟨_,k2,k3⟩:=lZ hv hu hne;have ih:=wx ho (ia hv) k2 (by omega) h c hc;cases hun:ax n c with
      | false=>rfl
      | true =>
       by_cases e:n=c
       . subst e;exact absurd ((D4 hne).2 hc) hh
       . rw[tj hv hun e]at ih;cases ih
theorem G3{z:aA}(hv:aV z=true){n:Bs}(hn:ai n=true)(hu:ax n z.apex=true) :
 (r7 z n=none/\spec (bc z) n=[])\/ ∃c,r7 z n=some c/\spec (bc z) n=c/\c∈bc z/\c ≠ []:=by
 have ho:=aU hv;obtain⟨hA,ha,_⟩:=jV ho;cases h:r7 z n with
 | none=>exact .inl ⟨rfl,oY fun c hc=>wx ho hn hu rfl h c (nT hc)⟩
 | some c =>
  obtain⟨h1,h2⟩:=qG hn h;have h3:=AP hv h1;exact .inr ⟨c,rfl,kW hA ha h3 h2,h3,ou (nk ho h3)⟩
theorem II{z:aA}(ho:Ordered z){s:Signed}(hs:s∈z.sets):ax s.set.name z.apex=true:=by
 have:=ho.under s hs;unfold bd at this;rw[if_pos ⟨ho.name s hs,ho.apex⟩]at this;exact this
theorem AO(p:Bs×Int):cpl p p=0:=(jb.zero _ _).2 rfl
theorem rY{a b:Bs×Int}(h:cpl a b<0):a ≠ b:=fun e=>by subst e;rw[AO]at h;omega
abbrev RP(l:List Signed):Prop:=l.Pairwise fun a b=>cpl a.place b.place<0
theorem c7.pw:∀{l:List Signed},c7 l->RP l
 | [],_=>List.Pairwise.nil
 | x::t,h=>List.Pairwise.cons (kV h) h.tail.pw
theorem RP.uniq:∀{l:List Signed},RP l-> ∀{a b:Signed},a∈l->b∈l->a.place=b.place->a=b
 | [],_,_,_,ha,_,_=>by cases ha
 | x::l,h,a,b,ha,hb,e=>by
  obtain⟨h1,h2⟩:=List.pairwise_cons.1 h;rcases List.mem_cons.1 ha with ha' | ha' <;> rcases List.mem_cons.1 hb with hb' | hb'
  . rw[ha',hb']
  . subst ha';exact(rY (h1 b hb') e).elim
  . subst hb';exact(rY (h1 a ha') e.symm).elim
  . exact RP.uniq h2 ha' hb' e
theorem lT{l:List Signed}{q:aI}:cv l q=true ↔ ∃s∈l,s.place=q.place:=by
 simp only[cv,List.any_eq_true,pT]
def rem(q:aI)(l:List Signed):List Signed:=l.filter fun x=> !is q x
theorem zi{s:eZ}(h:dt s=true):1<=s.type/\s.type<=8:=by
 unfold dt at h;simp only[Bool.and_eq_true,Bool.not_eq_true',Bool.or_eq_false_iff,Bool.not_eq_false']at h;have:=h.1.1.1.1.2;simp[within]at this;exact this
theorem yu{z:aA}(ho:Ordered z):aliases z=true ↔ ∀s∈z.sets,∀x∈z.sets,s.set.type=3->x.set.name=s.set.name->x.set.type=3\/x.set.type=8:=by
 unfold aliases;rw[List.all_eq_true];constructor
 . intro h s hs x hx h3 hn;obtain⟨i,hi⟩:=List.getElem?_of_mem hs;obtain⟨j,hj⟩:=List.getElem?_of_mem hx;have hil:=(List.getElem?_eq_some_iff.1 hi).1;have hjl:=(List.getElem?_eq_some_iff.1 hj).1;obtain⟨p,hp⟩:∃p,z.sets[i-1]? =some p:=⟨_,List.getElem?_eq_getElem (by omega)⟩
   have hok:=h i (List.mem_range.2 hil);refine Decidable.byContradiction fun hno=>?_
   have hne3:x.set.type ≠ 3:=fun e=>hno (.inl e)
   have hne8:x.set.type ≠ 8:=fun e=>hno (.inr e)
   have hbad:k7 z i=false:=by
    refine(lL hi hp).2 ⟨h3,?_⟩;rcases Nat.lt_trichotomy j i with hlt | heq | hgt
    . left
      refine⟨by omega,?_⟩;rcases Nat.lt_or_eq_of_le (show j<=i-1 by omega)with k | k
      . have a1:=(iD (eQ ho.rising k hj hp)).1;have a2:=(iD (eQ ho.rising (show i-1<i by omega) hp hi)).1;rw[hn]at a1;exact(E0 a1 a2).symm
      . rw[<- k,hj]at hp;cases hp;exact hn
    . subst heq;rw[hi]at hj;cases hj;exact absurd h3 hne3
    . right
      rcases Nat.lt_or_eq_of_le (show i+1<=j by omega)with k | k
      . obtain⟨y,hy⟩:∃y,z.sets[i+1]? =some y:=⟨_,List.getElem?_eq_getElem (by omega)⟩
        have a1:=iD (eQ ho.rising k hy hj);have a2:=(iD (eQ ho.rising (show i<i+1 by omega) hi hy)).1;have hyn:y.set.name=s.set.name:=by
         have:=a1.1;rw[hn]at this;exact E0 this a2
        refine⟨y,hy,hyn,?_⟩;have:=a1.2 (hyn.trans hn.symm);have:=(zi (ho.set x hx)).2;omega
      . exact⟨x,by rw[k];exact hj,hn,hne8⟩
   rw[hbad]at hok;cases hok
 . intro h i hi;have hil:=List.mem_range.1 hi;obtain⟨s,hs⟩:∃s,z.sets[i]? =some s:=⟨_,List.getElem?_eq_getElem hil⟩
   obtain⟨p,hp⟩:∃p,z.sets[i-1]? =some p:=⟨_,List.getElem?_eq_getElem (by omega)⟩
   cases hb:k7 z i with
   | true=>rfl
   | false =>
    obtain⟨h3,k⟩:=(lL hs hp).1 hb;have hsm:=List.mem_of_getElem? hs;rcases k with ⟨k1,k2⟩ | ⟨x,k1,k2,k3⟩
    . have:=(iD (eQ ho.rising (show i-1<i by omega) hp hs)).2 k2;rcases h s hsm p (List.mem_of_getElem? hp) h3 k2 with e | e <;> omega
    . have:=(iD (eQ ho.rising (show i<i+1 by omega) hs k1)).2 k2.symm;rcases h s hsm x (List.mem_of_getElem? k1) h3 k2 with e | e
      . omega
      . exact absurd e k3
theorem kE{α:Type}{l:List α}{p:Nat->Bool}{q:α->Bool}(h:∀i s,l[i]? =some s->p i=q s):(List.range l.length).all p=true ↔ ∀s∈l,q s=true:=by
 rw[List.all_eq_true];constructor
 . intro k s hs;obtain⟨i,hi⟩:=List.getElem?_of_mem hs;rw[<- h i s hi];exact k i (List.mem_range.2 (List.getElem?_eq_some_iff.1 hi).1)
 . intro k i hi;have hi:=List.mem_range.1 hi;rw[h i _ (List.getElem?_eq_getElem hi)];exact k _ (List.getElem_mem hi)
theorem Ordered.bool{z:aA}(h:Ordered z):ordered z=true:=by
 unfold ordered;have hall:(List.range z.sets.length).all (oR z)=true:=by
  rw[List.all_eq_true];intro i hi;have hi:=List.mem_range.1 hi;obtain⟨s,hs⟩:∃s,z.sets[i]? =some s:=⟨_,List.getElem?_eq_getElem hi⟩
  obtain⟨p,hp⟩:∃p,z.sets[i-1]? =some p:=⟨_,List.getElem?_eq_getElem (by omega)⟩
  have hsm:=List.mem_of_getElem? hs;have hpm:=List.mem_of_getElem? hp;rw[oc hs hp,kr,h.set s hsm,h.under s hsm,qE _ _ (h.name p hpm) (h.name s hsm)];by_cases h0:i=0
  . subst h0;rfl
  . have:=eQ h.rising (show i-1<i by omega) hp hs;have e:cpl (p.set.name,p.set.type) (s.set.name,s.set.type)<0:=this;have e2:¬cpl (p.set.name,p.set.type) (s.set.name,s.set.type)>=0:=by omega
    simp[e2]
 have hf:¬((z.sets.length:Int)>20000):=by have:=h.few;omega
 rw[hall,h.apex,h.tame];simp[hf]
structure Val(z:aA):Prop where
 ord:Ordered z
 start:cv z.sets ⟨z.apex,4⟩=true
 serv:cv z.sets ⟨z.apex,2⟩=true
 fit:∀s∈z.sets,fits s.set.type (s.set.name==z.apex)=true
 ali:∀s∈z.sets,∀x∈z.sets,s.set.type=3->x.set.name=s.set.name->x.set.type=3\/x.set.type=8
 cut:∀s∈z.sets,ju s (spec (bc z) s.set.name)=false
 sig:∀s∈z.sets,lB s (spec (bc z) s.set.name)=false
 form:∀s∈z.sets,eu s.sigs z.apex=true
theorem DX(z:aA):(List.range z.sets.length).all (iy z)=true ↔ ∀s∈z.sets,fits s.set.type (s.set.name==z.apex)=true :=
 kE fun i s h=>by unfold iy;rw[h]
theorem A7(z:aA):ma z=true ↔ ∀s∈z.sets,eu s.sigs z.apex=true :=
 kE fun i s h=>by unfold kC;rw[h]
theorem yC{z:aA}(ho:Ordered z):la z (bV z)=true ↔ ∀s∈z.sets,ju s (spec (bc z) s.set.name)=false:=by
 unfold la;rw[kE (q:=fun s=> !ju s (spec (bc z) s.set.name)) fun i s h=>by unfold cutAt;rw[yp h ho,h]];simp only[Bool.not_eq_true']
theorem zk{z:aA}(ho:Ordered z):mi z (bV z)=true ↔ ∀s∈z.sets,lB s (spec (bc z) s.set.name)=false:=by
 unfold mi;rw[kE (q:=fun s=> !lB s (spec (bc z) s.set.name)) fun i s h=>by unfold ny;rw[yp h ho,h]];simp only[Bool.not_eq_true']
theorem ED{z:aA}:aV z=true ↔ Val z:=by
 constructor
 . intro h;have ho:=aU h;unfold aV gj at h;simp only[Bool.and_eq_true]at h;obtain⟨⟨_,⟨⟨a1,a2⟩,a3⟩⟩,⟨⟨b1,b2⟩,b3⟩,b4⟩:=h;exact⟨ho,a1,a2,(DX z).1 a3,(yu ho).1 b1,(yC ho).1 b2,(zk ho).1 b3,(A7 z).1 b4⟩
 . intro h;unfold aV gj;dsimp only;rw[h.ord.bool,h.start,h.serv,(DX z).2 h.fit,(yu h.ord).2 h.ali,(yC h.ord).2 h.cut,(zk h.ord).2 h.sig,(A7 z).2 h.form];rfl
theorem Ge{z:aA}(ho:Ordered z)(n:Bs):(spec (bc z) n=[]/\ ∀c∈bK z.apex z.sets,ax n c=false) \/
 (spec (bc z) n∈bK z.apex z.sets/\ax n (spec (bc z) n)=true/\ ∀c∈bK z.apex z.sets,ax n c=true->ax c (spec (bc z) n)=true):=by
 obtain⟨hA,ha,hg⟩:=jV ho;by_cases he:∃h∈bc z,ax n h=true
 . obtain⟨h,hm,hu⟩:=he;have e:=kW hA ha hm hu;rw[e];refine .inr ⟨nT hm,hu,fun c hc hn=>?_⟩;obtain⟨g,hgm,hgu⟩:=hg c hc;have e2:=kW hA ha hgm (mo hn hgu);rw[<- e,e2];exact hgu
 . have hno:∀h∈bc z,ax n h=false:=fun h hm=>by
    cases hu:ax n h with
    | false=>rfl
    | true=>exact(he ⟨h,hm,hu⟩).elim
   refine .inl ⟨oY hno,fun c hc=>?_⟩;cases hu:ax n c with
   | false=>rfl
   | true =>
    obtain⟨g,hgm,hgu⟩:=hg c hc;exact(he ⟨g,hgm,mo hu hgu⟩).elim
theorem G4{z:aA}(ho:Ordered z){c:Bs}(h:c∈bK z.apex z.sets):c ≠ []/\c ≠ z.apex/\ai c=true/\ax c z.apex=true/\cv z.sets ⟨c,2⟩=true:=by
 obtain⟨s,hs,h1,h2⟩:=(jv _ _ _).1 h;subst h2;unfold cO at h1;simp only[Bool.and_eq_true,beq_iff_eq,Bool.not_eq_true',beq_eq_false_iff_ne]at h1;exact⟨ou (ho.name s hs),h1.2,ho.name s hs,II ho hs,lT.2 ⟨s,hs,by show(s.set.name,s.set.type)=_;rw[h1.1];rfl⟩⟩
theorem KP{s:Signed}(h:dt s.set=true):bu (qOf s)=true:=by
 have h1:=iG h;have h2:=zi h;unfold bu qOf;simp only[h1,Bool.true_and,Bool.and_eq_true,decide_eq_true_eq];exact⟨h2.1,h2.2⟩
theorem ix{z:aA}(hv:aV z=true){s:Signed}(hs:s∈z.sets):lf z (qOf s)=(s,true,0):=by
 have ho:=aU hv;have hh:cv z.sets (qOf s)=true:=lT.2 ⟨s,hs,rfl⟩;obtain⟨x,hx,hm,hp⟩:=A8 ho (q:=qOf s) (ho.name s hs) hh;have e:=ho.rising.pw.uniq hm hs hp;subst e;unfold lf;rw[if_neg (by simp[KP (ho.set _ hs),hv]),if_neg (by simp[hh]),hx];rfl
theorem J2{z:aA}(hv:aV z=true){q:aI}(hq:bu q=true)(h:cv z.sets q=false):lf z q=(qn,false,0):=by
 unfold lf;rw[if_neg (by simp[hq,hv]),if_pos (by simp[h])]
theorem L7{z:aA}(hv:aV z=true){q:aI}(hq:bu q=true)(h:cv z.sets q=true):∃s∈z.sets,s.place=q.place/\lf z q=(s,true,0):=by
 obtain⟨s,hs,e⟩:=lT.1 h;refine⟨s,hs,e,?_⟩;have:q=qOf s:=by
  have e1:s.set.name=q.name:=congrArg Prod.fst e;have e2:s.set.type=q.type:=congrArg Prod.snd e;cases q;simp[qOf]at e1 e2 ⊢;exact⟨e1.symm,e2.symm⟩
 rw[this];exact ix hv hs
theorem Lg{z:aA}(hv:aV z=true){c n:Bs}(hc:c∈bK z.apex z.sets)(hu:ax n c=true):spec (bc z) n=c:=by
 obtain⟨hA,ha,_⟩:=jV (aU hv);exact kW hA ha (AP hv hc) hu
theorem qy{l:List Signed}{q:aI}(h:cv l q=true):∃(k:Nat) (s:Signed),atI l q=k/\l[k]? =some s/\s.place=q.place:=by
 unfold atI;cases hf:l.findIdx? (is q)with
 | none =>
  rw[List.findIdx?_eq_none_iff]at hf;unfold cv at h;rw[List.any_eq_true]at h;obtain⟨s,hs,e⟩:=h;rw[hf s hs]at e;cases e
 | some k =>
  obtain⟨h1,h2,_⟩:=List.findIdx?_eq_some_iff_getElem.1 hf;exact⟨k,l[k],rfl,List.getElem?_eq_getElem h1,(pT q _).1 h2⟩
theorem M3{l:List Signed}(hl:RP l){q:aI}{k:Nat}{s:Signed}(hk:l[k]? =some s)(hp:s.place=q.place):posOf l q=k:=by
 unfold posOf;have h1:l=l.take k++s::l.drop (k+1):=by
  obtain⟨hlt,e⟩:=List.getElem?_eq_some_iff.1 hk
  conv=>lhs;rw[<- List.take_append_drop k l,List.drop_eq_getElem_cons hlt,e]
 have hlt:k<l.length:=(List.getElem?_eq_some_iff.1 hk).1;have h2:∀x∈l.take k,decide (cpl x.place q.place<0)=true:=fun x hx=>by
  have hl' :=hl;rw[h1]at hl';have:=(List.pairwise_append.1 hl').2.2 x hx s (List.mem_cons_self ..);rw[<- hp];simpa using this
 conv=>lhs;rw[h1]
 rw[List.takeWhile_append_of_pos h2,List.takeWhile_cons,if_neg (by rw[hp,AO];simp)];simp;omega
def bA(z:aA)(n:Bs):Bs:=((bK z.apex z.sets).find? fun c=>ax n c).getD []
theorem JK{z:aA}(hv:aV z=true)(n:Bs):bA z n=spec (bc z) n:=by
 unfold bA;cases hf:(bK z.apex z.sets).find? fun c=>ax n c with
 | none =>
  rw[List.find?_eq_none]at hf;rcases Ge (aU hv) n with ⟨e,_⟩ | ⟨e1,e2,_⟩
  . rw[e];rfl
  . exact absurd e2 (hf _ e1)
 | some c =>
  have h1:=List.find?_some hf;have h2:=List.mem_of_find?_eq_some hf;rw[Lg hv h2 h1];rfl
theorem LX{z:aA}{n:Bs}(hv:aV z=true)(hn:ai n=true)(hu:ax n z.apex=true):fb z n=(bA z n, !(bA z n==[]),0):=by
 have ha:=(aU hv).apex;have hu' :(bd n z.apex).1=true:=by unfold bd;rw[if_pos ⟨hn,ha⟩];exact hu
 rw[JK hv];unfold fb;rw[if_neg (by simp[hv,hn]),if_neg (by simp[hu'])];rcases G3 hv hn hu with ⟨e1,e2⟩ | ⟨c,e1,e2,_,e3⟩
 . rw[e1,e2];rfl
 . rw[e1,e2];have:(c==[])=false:=by simpa using e3
   rw[this];rfl
def ref(o:Bool)(s:Signed):Bool:=o||(s.set.type==2)
def mark(s:Signed)(o:Bool):Bs:=if ref o s=true then[]else s.set.name++[0]
end NP
namespace Go.Proofs.YtcecidfnchcagaaGreatDoor
open NQ Go NP Go.RowKit
theorem IC(q:aI):NQ.Fn cx 114 [.agg (bX q)] (.d (.bool (bu q))) []:=by
 refine av aH mixed Tryz.func114 (by kernel_rfl) rfl (Nat.le_of_ble_eq_true rfl) ?_;conv=>whnf
 (refine⟨_,_,mw q.name,?_⟩;conv=>whnf)
 (refine ae (fun h=>?_) (fun h=>?_) <;> (rw[h];conv=>whnf))
 . have h1:=h
   (refine ae (fun h=>?_) (fun h=>?_) <;> (rw[h];conv=>whnf))
   . refine af rfl ?_;show AV.d (D.bool _)=_;simp only[bu, *, if_true,if_false,Bool.false_eq_true,Bool.not_true,Bool.not_false,Bool.not_not,Bool.true_or,Bool.or_true,Bool.false_or,Bool.or_false,Bool.and_true,Bool.true_and,Bool.false_and,Bool.and_false]
   . refine af rfl ?_;show AV.d (D.bool _)=_;simp only[bu, *, if_true,if_false,Bool.false_eq_true,Bool.not_true,Bool.not_false,Bool.not_not,Bool.true_or,Bool.or_true,Bool.false_or,Bool.or_false,Bool.and_true,Bool.true_and,Bool.false_and,Bool.and_false]
 . refine af rfl ?_;show AV.d (D.bool _)=_;simp only[bu, *, if_true,if_false,Bool.false_eq_true,Bool.not_true,Bool.not_false,Bool.not_not,Bool.true_or,Bool.or_true,Bool.false_or,Bool.or_false,Bool.and_true,Bool.true_and,Bool.false_and,Bool.and_false]
theorem zf(z:aA)(hn:z.sets.length<=100000):NQ.Fn cx 113 [.agg (bt z)] (.d (.bool (aV z))) []:=by
 have:=I2 z hn
 rwa [Lh]at this
end Go.Proofs.YtcecidfnchcagaaGreatDoor
namespace NP
open NQ Go
structure View where
 apex:Bs
 sets:List Signed
 q:aI
 cut:Bs
 behind:Bool
 cM:Bs
def iW:Nat->List Signed->List (List D×D)
 | _,[]=>[]
 | i,s::t=>(bX (qOf s), .int .i64 i)::iW (i+1) t
def cn(v:View):List D:=[.str v.apex, .slice 5 (v.sets.map ay), .kmap (iW 0 v.sets), .str v.q.name, .int .i64 v.q.type, .str v.cut, .bool v.behind, .str v.cM]
theorem Mj(q:aI)(s:Signed):cg [.str, .int .i64] ((bX q).map .d) ((bX (qOf s)).map .d)=some (is q s):=by
 show some ((q.name==s.set.name)&&((q.type==s.set.type)&&true))=_
 rw[Bool.and_true];unfold is
 congr 1
 rw[Bool.beq_comm (a:=q.name),Bool.beq_comm (a:=q.type)]
theorem xY(q:aI):∀(l:List Signed) (i:Nat),ln [.str, .int .i64] (bX q) (iW i l)=some ((l.findIdx? (is q)).map fun k=>D.int .i64 ((i+k:Nat):Int))
 | [],i=>rfl
 | s::t,i=>by
  rw[iW,ln,Mj];cases h:is q s with
  | true=>simp[List.findIdx?_cons,h]
  | false =>
   simp only;rw[xY q t (i+1),List.findIdx?_cons,h];simp only[Bool.false_eq_true,if_false];cases t.findIdx? (is q) <;> simp;omega
def pB(l:List Signed)(n:Bs):Nat:=(l.takeWhile fun s=>decide (au s.set.name n<0)).length
theorem MF(l:List Signed)(n:Bs):pB l n<=l.length:=(List.takeWhile_sublist _).length_le
theorem BR{n:Bs}:∀{l:List Signed},l.Pairwise (fun a b=>au a.set.name b.set.name<=0)-> ∀{i:Nat} {s:Signed},l[i]? =some s->(pB l n<=i ↔ 0<=au s.set.name n)
 | [],_,i,s,h=>by cases h
 | x::l,hp,i,s,h=>by
  obtain⟨h1,h2⟩:=List.pairwise_cons.1 hp;unfold pB;rw[List.takeWhile_cons];by_cases hx:au x.set.name n<0
  . rw[if_pos (by simpa using hx),List.length_cons];cases i with
    | zero=>cases h;exact⟨fun h=>by omega,fun h=>by omega⟩
    | succ i =>
     have:=BR (n:=n) h2 (i:=i) (s:=s) (by simpa using h);unfold pB at this;omega
  . rw[if_neg (by simpa using hx),List.length_nil];refine⟨fun _=>?_,fun _=>Nat.zero_le _⟩;cases i with
    | zero=>cases h;omega
    | succ i =>
     have hm:s∈l:=List.mem_of_getElem? (i:=i) (by simpa using h);have h3:=h1 s hm;by_cases h4:au s.set.name n<0
     . exact absurd (aG.N0 h3 h4) hx
     . omega
def exB(l:List Signed)(n:Bs):Bool:=match l[pB l n]? with | some s=>(bd s.set.name n).1 | none=>false
end NP
namespace Go.Proofs.YtcecidfnchcagaaGreatDoor
open NQ Go NP Go.RowKit
theorem uF(a b:Bs):NQ.Fn cx 305 [.str a, .str b] (.d (.int .i64 (bf a b).1)) []:=by
 refine av aH mixed Tryz.func305 (by kernel_rfl) rfl (Nat.le_of_ble_eq_true rfl) ?_;conv=>whnf
 (refine⟨_,_,qo a b,?_⟩;conv=>whnf)
 exact af rfl rfl
theorem yR(a b:Bs):NQ.Fn cx 263 [.str a, .str b] (.d (.bool (bd a b).1)) []:=by
 refine av aH mixed Tryz.func263 (by kernel_rfl) rfl (Nat.le_of_ble_eq_true rfl) ?_;conv=>whnf
 (refine⟨_,_,qs a b,?_⟩;conv=>whnf)
 exact af rfl rfl
theorem F9(n c:Nat)(x y:D)(hn:n<=100000)(hc:c<=n)(hf:∀i:Nat,i<n->NQ.Fn cx 304 [.int .i64 i,x,y] (.d (.bool (decide (c<=i)))) []) :
 NQ.Fn cx 303 [.int .i64 n, .fn 304 [] [x,y]] (.d (.int .i64 c)) []:=by
 refine av aH mixed Tryz.func303 (by kernel_rfl) rfl (Nat.le_of_ble_eq_true rfl) ?_;conv=>whnf
 refine⟨Nat×Nat,fun z=>⟨[(1, .d (.fn 304 [] [x,y])),(5, .d (.int .i64 z.1)),(6, .d (.int .i64 z.2))],[]⟩,fun z=>z.1<=c/\c<=z.2/\z.2<=n,fun z=>z.2-z.1,
  ⟨(0,n),⟨Nat.zero_le _,hc,Nat.le_refl _⟩,ah.keep ⟨⟨rfl,rfl⟩,⟨rfl,rfl⟩,⟨rfl,rfl⟩,trivial⟩ trivial⟩,?_⟩
 rintro⟨i,j⟩ ⟨h1,h2,h3⟩;simp only at h1 h2 h3
 conv=>whnf
 refine ae (fun hlt=>?_) (fun hlt=>?_) <;> (rw[hlt];conv=>whnf)
 . have hij:i<j:=by simp at hlt;omega
   rw[Bz (by omega)]
   (refine⟨_,_,hf ((i+j) / 2) (by omega),?_⟩;conv=>whnf)
   refine ae (fun h=>?_) (fun h=>?_) <;> (rw[h];conv=>whnf)
   . have hlt:(i+j) / 2<c:=by simp at h;omega
     exact⟨((i+j) / 2+1,j),⟨hlt,h2,h3⟩,by(show j-((i+j) / 2+1)<j-i;omega),ah.keep ⟨⟨rfl,rfl⟩,⟨aj (by omega),rfl⟩,⟨rfl,rfl⟩,trivial⟩ trivial⟩
   . have hle:c<=(i+j) / 2:=by simp at h;omega
     exact⟨(i,(i+j) / 2),⟨h1,hle,by(show(i+j) / 2<=n;omega)⟩,by(show(i+j) / 2-i<j-i;omega),ah.keep ⟨⟨rfl,rfl⟩,⟨rfl,rfl⟩,⟨rfl,rfl⟩,trivial⟩ trivial⟩
 . obtain rfl:i=c:=by simp at hlt;omega
   exact af rfl rfl
theorem Ga(n c:Nat)(x y:D)(hn:n<=100000)(hc:c<=n)(hf:∀i:Nat,i<n->NQ.Fn cx 320 [.int .i64 i,x,y] (.d (.bool (decide (c<=i)))) []) :
 NQ.Fn cx 303 [.int .i64 n, .fn 320 [] [x,y]] (.d (.int .i64 c)) []:=by
 refine av aH mixed Tryz.func303 (by kernel_rfl) rfl (Nat.le_of_ble_eq_true rfl) ?_;conv=>whnf
 refine⟨Nat×Nat,fun z=>⟨[(1, .d (.fn 320 [] [x,y])),(5, .d (.int .i64 z.1)),(6, .d (.int .i64 z.2))],[]⟩,fun z=>z.1<=c/\c<=z.2/\z.2<=n,fun z=>z.2-z.1,
  ⟨(0,n),⟨Nat.zero_le _,hc,Nat.le_refl _⟩,ah.keep ⟨⟨rfl,rfl⟩,⟨rfl,rfl⟩,⟨rfl,rfl⟩,trivial⟩ trivial⟩,?_⟩
 rintro⟨i,j⟩ ⟨h1,h2,h3⟩;simp only at h1 h2 h3
 conv=>whnf
 refine ae (fun hlt=>?_) (fun hlt=>?_) <;> (rw[hlt];conv=>whnf)
 . have hij:i<j:=by simp at hlt;omega
   rw[Bz (by omega)]
   (refine⟨_,_,hf ((i+j) / 2) (by omega),?_⟩;conv=>whnf)
   refine ae (fun h=>?_) (fun h=>?_) <;> (rw[h];conv=>whnf)
   . have hlt:(i+j) / 2<c:=by simp at h;omega
     exact⟨((i+j) / 2+1,j),⟨hlt,h2,h3⟩,by(show j-((i+j) / 2+1)<j-i;omega),ah.keep ⟨⟨rfl,rfl⟩,⟨aj (by omega),rfl⟩,⟨rfl,rfl⟩,trivial⟩ trivial⟩
   . have hle:c<=(i+j) / 2:=by simp at h;omega
     exact⟨(i,(i+j) / 2),⟨h1,hle,by(show(i+j) / 2<=n;omega)⟩,by(show(i+j) / 2-i<j-i;omega),ah.keep ⟨⟨rfl,rfl⟩,⟨rfl,rfl⟩,⟨rfl,rfl⟩,trivial⟩ trivial⟩
 . obtain rfl:i=c:=by simp at hlt;omega
   exact af rfl rfl
theorem iC(v:View)(n:Bs)(t:Int):NQ.Fn cx 262 [.ptr (cn v), .str n, .int .i64 t] (.d (.int .i64 (atI v.sets ⟨n,t⟩))) []:=by
 refine av aH mixed Tryz.func262 (by kernel_rfl) rfl (Nat.le_of_ble_eq_true rfl) ?_;conv=>whnf
 have hk:=xY ⟨n,t⟩ v.sets 0;unfold atI;cases hf:v.sets.findIdx? (is ⟨n,t⟩)with
 | some k =>
  rw[hf]at hk;refine⟨some (.int .i64 k),by rw[Option.map_some,Nat.zero_add]at hk;exact hk,?_⟩
  conv=>whnf
  exact af rfl rfl
 | none =>
  rw[hf]at hk;refine⟨none,hk,?_⟩
  conv=>whnf
  exact af rfl rfl
theorem rm(v:View):NQ.Fn cx 266 [.ptr (cn v)] (.d (.int .i64 (atI v.sets ⟨v.apex,4⟩))) []:=by
 refine av aH mixed Tryz.func266 (by kernel_rfl) rfl (Nat.le_of_ble_eq_true rfl) ?_;conv=>whnf
 (refine⟨_,_,iC v v.apex 4,?_⟩;conv=>whnf)
 exact af rfl rfl
theorem Fj(v:View)(n:Bs)(i:Nat)(s:Signed)(hs:v.sets[i]? =some s):NQ.Fn cx 304 [.int .i64 i, .ptr [.ptr (cn v)], .ptr [.str n]] (.d (.bool (decide ((bf s.set.name n).1>=0)))) []:=by
 refine av aH mixed Tryz.func304 (by kernel_rfl) rfl (Nat.le_of_ble_eq_true rfl) ?_;conv=>whnf
 (refine⟨(by kernel_rfl:aT _ _=true),?_⟩;conv=>whnf)
 refine⟨Int.natCast_nonneg i,ay s,az hs,?_⟩
 conv=>whnf
 (refine⟨_,_,uF s.set.name n,?_⟩;conv=>whnf)
 exact af rfl rfl
theorem si(v:View)(n:Bs)(hn:v.sets.length<=100000)(hr:c7 v.sets)(hv:∀s∈v.sets,ai s.set.name=true)(hvn:ai n=true):NQ.Fn cx 265 [.ptr (cn v), .str n] (.d (.bool (exB v.sets n))) []:=by
 refine av aH mixed Tryz.func265 (by kernel_rfl) rfl (Nat.le_of_ble_eq_true rfl) ?_;conv=>whnf
 have hp:=oS hr;have hle:=MF v.sets n;have hS:=F9 v.sets.length (pB v.sets n) (.ptr [.ptr (cn v)]) (.ptr [.str n]) hn hle (fun i hi=>by
  obtain⟨s,hs⟩:∃s,v.sets[i]? =some s:=⟨_,List.getElem?_eq_getElem hi⟩
  have h:=Fj v n i s hs;have e:decide ((bf s.set.name n).1>=0)=decide (pB v.sets n<=i):=by
   have hc:(bf s.set.name n).1=au s.set.name n:=by unfold bf;rw[if_pos ⟨hv s (List.mem_of_getElem? hs),hvn⟩]
   rw[hc,decide_eq_decide];exact(BR hp hs).symm
  rwa [e]at h)
 have hl:((v.sets.map ay).length:Int)=(v.sets.length:Int):=by rw[List.length_map]
 rw[hl];refine⟨_,hS,rfl,?_⟩
 conv=>whnf
 (refine⟨(by kernel_rfl:aT _ _=true),?_⟩;conv=>whnf)
 rw[hl];unfold exB;cases hg:v.sets[pB v.sets n]? with
 | none =>
  have:decide (((pB v.sets n:Nat):Int)<(v.sets.length:Int))=false:=by
   rw[List.getElem?_eq_none_iff]at hg;rw[decide_eq_false];omega
  rw[this]
  conv=>whnf
  exact af rfl rfl
 | some s =>
  have:decide (((pB v.sets n:Nat):Int)<(v.sets.length:Int))=true:=by
   have:=(List.getElem?_eq_some_iff.1 hg).1;rw[decide_eq_true];omega
  rw[this]
  conv=>whnf
  refine⟨Int.natCast_nonneg _,ay s,az hg,?_⟩
  conv=>whnf
  (refine⟨_,_,yR s.set.name n,?_⟩;conv=>whnf)
  exact af rfl rfl
theorem Kk(l:List Int)(x:Int)(hl:l.length<=100000):NQ.Fn cx 318 [.slice 1 (l.map cG), .int .i64 x] (.d (.int .i64 (match l.findIdx? (· ==x)with | some k=>(k:Int) | none=> -1))) []:=by
 refine av aH mixed Tryz.func318 (by kernel_rfl) rfl (Nat.le_of_ble_eq_true rfl) ?_;conv=>whnf
 refine⟨Nat,fun k=>⟨[(0, .d (.slice 1 (l.map cG))),(1, .d (.int .i64 x)),(7, .d (.int .i64 ((l.map cG).length:Int))),(8, .d (.int .i64 k))],[]⟩,fun k=>k<=l.length/\ ∀j y,j<k->l[j]? =some y->(y==x)=false,fun k=>l.length-k,
  ⟨0,⟨by omega,fun j y h=>by omega⟩,ah.keep ⟨⟨rfl,rfl⟩,⟨rfl,rfl⟩,⟨rfl,rfl⟩,⟨rfl,rfl⟩,trivial⟩ trivial⟩,fun k ⟨hk,hall⟩=>?_⟩
 conv=>whnf
 refine ae (fun h1=>?_) (fun h1=>?_) <;> (rw[h1];conv=>whnf)
 . have hlt:k<l.length:=by simp at h1;omega
   obtain⟨y,hy⟩:∃s,l[k]? =some s:=⟨_,List.getElem?_eq_getElem hlt⟩
   refine⟨Int.natCast_nonneg k,cG y,az hy,?_⟩
   conv=>whnf
   (refine ae (fun h=>?_) (fun h=>?_) <;> (rw[h];conv=>whnf))
   . refine af rfl ?_;have:l.findIdx? (· ==x)=some k:=by
      rw[List.findIdx?_eq_some_iff_getElem];refine⟨hlt,?_,fun j hj=>?_⟩
      . obtain⟨_,e⟩:=List.getElem?_eq_some_iff.1 hy;rw[e];simp at h ⊢;exact h.symm
      . have:=hall j l[j] hj (List.getElem?_eq_getElem (by omega));simpa using this
     rw[this];rfl
   . refine⟨k+1,⟨hlt,fun j z hj hz=>?_⟩,by(show l.length-(k+1)<l.length-k;omega),ah.keep ⟨⟨rfl,rfl⟩,⟨rfl,rfl⟩,⟨rfl,rfl⟩,⟨aj (by omega),rfl⟩,trivial⟩ trivial⟩;rcases Nat.lt_or_eq_of_le (Nat.le_of_lt_succ hj)with h2 | rfl
     . exact hall j z h2 hz
     . rw[hy]at hz;cases hz;simp at h ⊢;exact fun e=>h e.symm
 . obtain rfl:k=l.length:=by simp at h1;omega
   refine af rfl ?_;have:l.findIdx? (· ==x)=none:=by
    rw[List.findIdx?_eq_none_iff];intro y hy;obtain⟨j,hj⟩:=List.getElem?_of_mem hy;exact hall j y (List.getElem?_eq_some_iff.1 hj).1 hj
   rw[this];rfl
theorem CM(l:List Int)(x:Int)(hl:l.length<=100000):NQ.Fn cx 302 [.slice 1 (l.map cG), .int .i64 x] (.d (.bool (l.contains x))) []:=by
 refine av aH mixed Tryz.func302 (by kernel_rfl) rfl (Nat.le_of_ble_eq_true rfl) ?_;conv=>whnf
 (refine⟨_,_,Kk l x hl,?_⟩;conv=>whnf)
 refine af rfl ?_;show AV.d (D.bool (decide ((match l.findIdx? (· ==x)with | some k=>(k:Int) | none=> -1)>=0)))=_
 congr 2
 cases h:l.findIdx? (· ==x)with
 | some k =>
  obtain⟨h1,h2,_⟩:=List.findIdx?_eq_some_iff_getElem.1 h;have:l.contains x=true:=by
   rw[List.contains_iff_mem];have e:l[k]=x:=by simpa using h2
   exact e ▸ List.getElem_mem h1
  rw[this,decide_eq_true];exact Int.natCast_nonneg k
 | none =>
  have:l.contains x=false:=by
   rw[<- Bool.not_eq_true,List.contains_iff_mem];intro hm;have:=List.findIdx?_eq_none_iff.1 h x hm;simp at this
  rw[this];rfl
end Go.Proofs.YtcecidfnchcagaaGreatDoor
namespace NP
open NQ Go
structure Ans where
 kind:Int
 sets:List Signed
 cut:Bs
 deriving DecidableEq
def dY(a:Ans):List D:=[.int .i64 a.kind, .slice 5 (a.sets.map ay), .str a.cut]
def bW(l:List Signed):List Int->List Int->List Signed
 | _,[]=>[]
 | seen,p::t=>if (decide (p<0)||seen.contains p)=true then bW l (seen++[p]) t else(l[p.toNat]?).getD qn::bW l (seen++[p]) t
end NP
namespace Go.Proofs.YtcecidfnchcagaaGreatDoor
open NQ Go NP Go.RowKit
theorem F7(l:List Int)(k:Nat):((l.map cG).drop ((0:Nat):Int).toNat).take (((k:Nat):Int).toNat-((0:Nat):Int).toNat)=(l.take k).map cG:=by
 simp[List.map_take]
theorem gA(v:View)(kind:Int)(ps:List Int)(hn:ps.length<=1000)(hp:∀p∈ps,p<v.sets.length)(hs:∀s∈v.sets,Small s) :
 FnB cx 264 (cn v) [.int .i64 kind, .slice 1 (ps.map cG)] (.agg ((dY ⟨kind,bW v.sets [] ps,[]⟩).map .d)) (cn v):=by
 refine fo (fun _=>[]) aH mixed Tryz.func264 (by kernel_rfl) rfl (Nat.le_of_ble_eq_true rfl) (Nat.le_of_ble_eq_true rfl) ?_;conv=>whnf
 refine ⟨Nat × List Signed, fun x => ⟨[(0, .ptr 100000 0), (2, .d (.slice 1 (ps.map cG))), (6, .ptr 6 0), (7, .ptr 7 0), (13, .d (.slice 1 (ps.map cG))), (14, .d (.int .i64 ((ps.map cG).length : Int))), (15, .d (.int .i64 x.1))],
     [(100000, .box ((cn v).map .d)),(6, .box [.d (.int .i64 0), .nil 5, .d (.str [])]),(7, .box [.d (.int .i64 kind), .own 200, .d (.str [])]),(200, .row 79 5 (x.2.map ay))]⟩,
  fun x=>x.1<=ps.length/\x.2.length<=x.1/\x.2++bW v.sets (ps.take x.1) (ps.drop x.1)=bW v.sets [] ps,fun x=>ps.length-x.1,
  ⟨(0,[]),⟨by omega,by simp,by simp⟩,(ah.qV 7 1 200 5 [.d (.int .i64 kind), .nil 5, .d (.str [])] 79 5 rfl rfl rfl (by decide)).trans (ah.keep ⟨⟨rfl,rfl⟩,⟨rfl,rfl⟩,⟨rfl,rfl⟩,⟨rfl,rfl⟩,⟨rfl,rfl⟩,⟨rfl,rfl⟩,⟨rfl,rfl⟩,trivial⟩ ⟨⟨rfl,rfl⟩,⟨rfl,rfl⟩,⟨rfl,rfl⟩,⟨rfl,rfl⟩,trivial⟩)⟩,?_⟩
 rintro⟨k,acc⟩ ⟨hk,hl,hc⟩;simp only at hk hl hc
 conv=>whnf
 refine ae (fun h1=>?_) (fun h1=>?_) <;> (rw[h1];conv=>whnf)
 . have hlt:k<ps.length:=by simp at h1;omega
   obtain⟨p,hpk⟩:∃p,ps[k]? =some p:=⟨_,List.getElem?_eq_getElem hlt⟩
   rw[drop_cons hpk,bW, <- aS hpk]at hc;refine⟨Int.natCast_nonneg k,cG p,az hpk,?_⟩
   conv=>whnf
   have skip:(decide (p<0)||(ps.take k).contains p)=true-> ∀st,ah cx st ⟨[(0, .ptr 100000 0),(2, .d (.slice 1 (ps.map cG))),(6, .ptr 6 0),(7, .ptr 7 0),(13, .d (.slice 1 (ps.map cG))),(14, .d (.int .i64 ((ps.map cG).length:Int))),(15, .d (.int .i64 ((k+1:Nat):Int)))],
    [(100000, .box ((cn v).map .d)),(6, .box [.d (.int .i64 0), .nil 5, .d (.str [])]),(7, .box [.d (.int .i64 kind), .own 200, .d (.str [])]),(200, .row 79 5 (acc.map ay))]⟩ ->
    ∃y:Nat×List Signed,(y.1<=ps.length/\y.2.length<=y.1/\y.2++bW v.sets (ps.take y.1) (ps.drop y.1)=bW v.sets [] ps)/\ps.length-y.1<ps.length-k/\ah cx st ⟨[(0, .ptr 100000 0),(2, .d (.slice 1 (ps.map cG))),(6, .ptr 6 0),(7, .ptr 7 0),(13, .d (.slice 1 (ps.map cG))),(14, .d (.int .i64 ((ps.map cG).length:Int))),(15, .d (.int .i64 y.1))],
    [(100000, .box ((cn v).map .d)),(6, .box [.d (.int .i64 0), .nil 5, .d (.str [])]),(7, .box [.d (.int .i64 kind), .own 200, .d (.str [])]),(200, .row 79 5 (y.2.map ay))]⟩:=fun hb st hw=>by
    rw[if_pos hb]at hc;exact⟨(k+1,acc),⟨hlt,by(show acc.length<=k+1;omega),hc⟩,by(show ps.length-(k+1)<ps.length-k;omega),hw⟩
   (refine ae (fun h=>?_) (fun h=>?_) <;> (rw[h];conv=>whnf))
   . exact skip (by rw[h];rfl) _ (ah.keep ⟨⟨rfl,rfl⟩,⟨rfl,rfl⟩,⟨rfl,rfl⟩,⟨rfl,rfl⟩,⟨rfl,rfl⟩,⟨rfl,rfl⟩,⟨aj (by omega),rfl⟩,trivial⟩ ⟨⟨rfl,rfl⟩,⟨rfl,rfl⟩,⟨rfl,rfl⟩,⟨rfl,rfl⟩,trivial⟩)
   have hp0:=h;refine⟨by omega,by omega,by(rw[List.length_map];omega),?_⟩
   conv=>whnf
   rw[F7]
   (refine⟨_,_,CM (ps.take k) p (by(rw[List.length_take];omega)),?_⟩;conv=>whnf)
   (refine ae (fun h=>?_) (fun h=>?_) <;> (rw[h];conv=>whnf))
   . exact skip (by rw[h,Bool.or_true]) _ (ah.keep ⟨⟨rfl,rfl⟩,⟨rfl,rfl⟩,⟨rfl,rfl⟩,⟨rfl,rfl⟩,⟨rfl,rfl⟩,⟨rfl,rfl⟩,⟨aj (by omega),rfl⟩,trivial⟩ ⟨⟨rfl,rfl⟩,⟨rfl,rfl⟩,⟨rfl,rfl⟩,⟨rfl,rfl⟩,trivial⟩)
   have hge:0<=p:=by simp at hp0;omega
   have hplt:=hp p (List.mem_of_getElem? hpk);obtain⟨s,hsp⟩:∃s,v.sets[p.toNat]? =some s:=⟨_,List.getElem?_eq_getElem (by omega)⟩
   have hsm:=hs s (List.mem_of_getElem? hsp);rw[if_neg (by rw[hp0,h];simp),hsp]at hc;refine⟨hge,ay s,by(rw[List.getElem?_map,hsp];rfl),?_⟩
   conv=>whnf
   (refine⟨_,_,AH _ (by simpa using hsm.1),?_⟩;conv=>whnf)
   (refine⟨_,_,AI _ (by simpa using hsm.2),?_⟩;conv=>whnf)
   refine⟨by(show(acc.map ay).length+1<=_;rw[List.length_map];omega),by(show((acc.map ay).length+1)*80<=_;rw[List.length_map];omega),?_⟩
   conv=>whnf
   refine⟨(k+1,acc++[s]),⟨hlt,by(simp;omega),by(rw[<- hc];simp)⟩,by(show ps.length-(k+1)<ps.length-k;omega),ah.keep ⟨⟨rfl,rfl⟩,⟨rfl,rfl⟩,⟨rfl,rfl⟩,⟨rfl,rfl⟩,⟨rfl,rfl⟩,⟨rfl,rfl⟩,⟨aj (by omega),rfl⟩,trivial⟩ ⟨⟨rfl,rfl⟩,⟨rfl,rfl⟩,⟨rfl,rfl⟩,⟨by(show some (Blk.row _ _ (_++_))=some (Blk.row _ _ _);rw[List.map_append];rfl),rfl⟩,trivial⟩⟩
 . obtain rfl:k=ps.length:=by simp at h1;omega
   rw[List.drop_length,bW,List.append_nil]at hc;refine⟨[200],_,_,rfl,?_,rfl,rfl⟩;rw[<- hc];rfl
end Go.Proofs.YtcecidfnchcagaaGreatDoor
namespace NP
open NQ Go
end NP
namespace Go.Proofs.YtcecidfnchcagaaGreatDoor
open NQ Go NP Go.RowKit
theorem KV(z:aA)(q:aI)(hn:z.sets.length<=100000):NQ.Fn cx 51 [.agg (bt z), .agg (bX q)] (.tuple [.agg ((ay (lf z q).1).map .d), .d (.bool (lf z q).2.1), .d (.int .i64 (lf z q).2.2)]) []:=by
 refine av aH mixed Tryz.func51 (by kernel_rfl) rfl (Nat.le_of_ble_eq_true rfl) ?_;conv=>whnf
 (refine⟨_,_,zf z hn,?_⟩;conv=>whnf)
 have bad:(!bu q|| !aV z)=true->lf z q=(qn,false,1):=fun h=>by rw[lf,if_pos h]
 (refine ae (fun h=>?_) (fun h=>?_) <;> (rw[h];conv=>whnf))
 . refine af rfl ?_;rw[bad (by simp[h])];rfl
 have hv:aV z=true:=by simpa using h
 (refine⟨_,_,IC q,?_⟩;conv=>whnf)
 (refine ae (fun h=>?_) (fun h=>?_) <;> (rw[h];conv=>whnf))
 . refine af rfl ?_;rw[bad (by simp[h])];rfl
 have hq:bu q=true:=by simpa using h
 (refine⟨_,_,zW z q hn,?_⟩;conv=>whnf)
 have ho:=aU hv;rw[lO];cases hh:cv z.sets q with
 | false =>
  conv=>whnf
  refine af rfl ?_;rw[J2 hv hq hh];rfl
 | true =>
  obtain⟨k,s,hk,hs,hp⟩:=qy hh
  conv=>whnf
  rw[hk];refine⟨Int.natCast_nonneg k,ay s,az hs,?_⟩
  conv=>whnf
  have e:lf z q=(s,true,0):=by
   obtain⟨x,hx,hpx,e⟩:=L7 hv hq hh;rw[e,ho.rising.pw.uniq hx (List.mem_of_getElem? hs) (hpx.trans hp.symm)]
  refine af rfl ?_;rw[e];rfl
theorem uT(z:aA)(hv:aV z=true):NQ.Fn cx 75 [.agg (bt z)] (.d (.int .i64 (iF z))) []:=by
 have ho:=aU hv;have hfew:=ho.few;refine av aH mixed Tryz.func75 (by kernel_rfl) rfl (Nat.le_of_ble_eq_true rfl) ?_;conv=>whnf
 obtain⟨k,s,hk,hs,hp⟩:=qy (ED.1 hv).start;have fA:=zW z ⟨z.apex,4⟩ (by omega);rw[hk]at fA;obtain⟨d,hd⟩:=zh (ho.set s (List.mem_of_getElem? hs));have e:iF z=d.n:=by
  unfold iF;rw[M3 ho.rising.pw hs hp,hs];simp only[hd]
 (refine⟨(by kernel_rfl:aT _ _=true),?_⟩;conv=>whnf)
 (refine⟨_,_,fA,?_⟩;conv=>whnf)
 refine⟨Int.natCast_nonneg k,ay s,az hs,?_⟩
 conv=>whnf
 refine⟨by decide,bG d,by(show(s.set.data.map bG)[(0:Int).toNat]? =_;simp[hd]),?_⟩
 conv=>whnf
 exact af rfl (by rw[e];rfl)
end Go.Proofs.YtcecidfnchcagaaGreatDoor
