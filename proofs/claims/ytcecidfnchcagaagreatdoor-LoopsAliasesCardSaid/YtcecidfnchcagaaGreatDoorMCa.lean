/-
  Texts of the proof, merged in build order.
-/
import Derived.Test.YtcecidfnchcagaaGreatDoorAbM
import Derived.Test.YtcecidfnchcagaaGreatDoorMVa
import Derived.Test.YtcecidfnchcagaaGreatDoorTyM
import Derived.WalkKit
import Derived.Deep.LoopGhost
import Derived.Deep.RegionLaw
import Derived.Lib.Walk
import Derived.Lib.SliceRun
import Derived.Lib.SlicesDelete
import Derived.Shelf.RegionOpenPlain
import Derived.Lib.Hide
import Derived.Test.YtcecidfnchcagaaGreatDoorQzM
import Derived.Lib.AppendZerosOnto
import Derived.Laws.NewBlocks
import Derived.Shelf.Spec.SlicesInsert
import Derived.Test.YtcecidfnchcagaaGreatDoorMQt
set_option linter.all false
set_option maxRecDepth 100000
namespace NP
open NQ Go
def xG:Signed:=⟨⟨[],0,0,[]⟩,[]⟩
def Small(s:Signed):Prop:=s.set.data.length<=100000/\s.sigs.length<=100000
def Ld(z:aP)(q:aW):Signed×Bool×Int :=
 if (!bB q|| !bD z)=true then(xG,false,1)else if (!b9 z.sets q)=true then(xG,false,0)else((z.sets[posOf z.sets q]?).getD xG,true,0)
theorem sI{l:List Sig}{a:Bs}(h:fc l a=true):l.length<=6:=by
 simp[fc]at h;omega
theorem xo{s:fI}(h:dW s=true):s.data.length<=8:=by
 unfold dW at h;simp only[aN,Bool.not_eq_true',Bool.or_eq_false_iff,Bool.not_eq_false']at h;have:=h.1.1.2;simp[within]at this;omega
theorem pP{z:aP}(h:bD z=true):∀s∈z.sets,Small s:=fun s hs=>by
 have ho:=bx h;refine⟨by have:=xo (ho.set s hs);omega,?_⟩;simp only[bD,aN]at h;have hf:=h.2.2;simp only[mK,ay]at hf;obtain⟨i,hi,rfl⟩:=List.getElem_of_mem hs;have:=hf i (List.mem_range.2 hi);simp only[kU,ah hi]at this;have:=sI this;omega
end NP
namespace Go.Proofs.YtcecidfnchcagaaGreatDoor
open NQ Go NP Go.RowKit
theorem AN(rows:List (List D))(hl:rows.length<=100000):NQ.Fn cx 175 [.slice 3 rows] (.d (.slice 3 rows)) []:=by
 refine aM bf mixed Tryz.func175 (by kernel_rfl) rfl (ag rfl) ?_;conv=>whnf
 refine⟨fun h=>?_,?_⟩
 . refine af rfl ?_;rw[List.isEmpty_iff.1 h];rfl
 . conv=>whnf
   refine⟨by(show 0+rows.length<=_;omega),by(show(0+rows.length)*32<=_;omega),?_⟩
   conv=>whnf
   exact af rfl rfl
theorem AO(rows:List (List D))(hl:rows.length<=100000):NQ.Fn cx 176 [.slice 6 rows] (.d (.slice 6 rows)) []:=by
 refine aM bf mixed Tryz.func176 (by kernel_rfl) rfl (ag rfl) ?_;conv=>whnf
 refine⟨fun h=>?_,?_⟩
 . refine af rfl ?_;rw[List.isEmpty_iff.1 h];rfl
 . conv=>whnf
   refine⟨by(show 0+rows.length<=_;omega),by(show(0+rows.length)*56<=_;omega),?_⟩
   conv=>whnf
   exact af rfl rfl
end Go.Proofs.YtcecidfnchcagaaGreatDoor
namespace NP
open NQ Go
def nE:aP:=⟨[],[]⟩
def qOf(s:Signed):aW:=⟨s.set.name,s.set.type⟩
def Ny(l:List Signed)(i:Nat)(s:Signed):List Signed:=l.take i++[s]++l.drop i
def Kt(l:List Signed)(s:Signed):List Signed:=if b9 l (qOf s)=true then l.set (posOf l (qOf s)) s else Ny l (posOf l (qOf s)) s
def rf(z:aP)(s:Signed):aP:=⟨z.apex,Kt z.sets s⟩
def Ku(z:aP)(s:Signed):aP×Int :=
 if (!dW s.set|| !bD z)=true then(nE,1)
 else if (!fc s.sigs z.apex)=true then(nE,30)
 else if (!(bI s.set.name z.apex).1)=true then(nE,20)
 else if (!fits s.set.type (s.set.name==z.apex))=true then(nE,22)
 else if (!b9 z.sets (qOf s)&&decide ((z.sets.length:Int)>=20000))=true then(nE,2)
 else if (!aliases (rf z s))=true then(nE,21)
 else if (!lG (rf z s) (cL (rf z s)))=true then(nE,20)
 else if (!mQ (rf z s) (cL (rf z s)))=true then(nE,30)
 else(rf z s,0)
end NP
namespace Go.Proofs.YtcecidfnchcagaaGreatDoor
open NQ Go NP Go.RowKit
end Go.Proofs.YtcecidfnchcagaaGreatDoor
namespace NP
open NQ Go
theorem x9{s:Bs}(h:aj s=true):(bc s).length<=8:=by
 have:=nC h;simp[okL]at this;exact this.1
theorem jY{s:Bs}(h:aj s=true):s ≠ []:=by rintro rfl;revert h;decide
theorem yx{z:aP}{i:Nat}{s:Signed}(h:z.sets[i]? =some s)(ho:Ordered z):(cL z)[i]? =some (spec (bN z) s.set.name):=by
 rw[<- rZ ho,rY ho,aR,h];rfl
theorem Jy{z:aP}(hv:bD z=true){s:Signed}(hs:s∈z.sets):jI s (spec (bN z) s.set.name)=false:=by
 have ho:=bx hv;obtain⟨i,hi⟩:=bV hs;simp only[bD,aN]at hv;have hc:=hv.2.1.1.2;simp only[lG,ay]at hc;have:=hc i (List.mem_range.2 (aq.1 hi).1);simp only[cutAt,hi,yx hi ho]at this;simpa using this
theorem lk(apex c:Bs):∀(l:List Signed),c∈cD apex l ↔ ∃s∈l,dJ apex s=true/\s.set.name=c
 | []=>by simp[cD]
 | s::t=>by
  have ih:=lk apex c t;unfold cD;split
  . rename_i h;rw[List.mem_cons,ih];constructor
    . rintro(rfl | ⟨x,hx,k⟩)
      . exact⟨s,List.mem_cons_self .., h,rfl⟩
      . exact⟨x,aX _ hx,k⟩
    . rintro⟨x,hx,k1,k2⟩;rcases List.mem_cons.1 hx with rfl | hx
      . exact .inl k2.symm
      . exact .inr ⟨x,hx,k1,k2⟩
  . rename_i h;rw[ih];constructor
    . rintro⟨x,hx,k⟩;exact⟨x,aX _ hx,k⟩
    . rintro⟨x,hx,k1,k2⟩;rcases List.mem_cons.1 hx with rfl | hx
      . exact absurd k1 h
      . exact⟨x,hx,k1,k2⟩
theorem IK{s:Bs}(h:aj s=true):(s==[])=false:=by have:=jY h;simpa using this
theorem AZ{z:aP}(hv:bD z=true){c:Bs}(hc:c∈cD z.apex z.sets):c∈bN z:=by
 have ho:=bx hv;obtain⟨hA,ha,hcov⟩:=j8 ho;obtain⟨s,hs,hcut,rfl⟩:=(lk _ _ _).1 hc;obtain⟨g,hg,hu⟩:=hcov _ hc;have hsp:=lA hA ha hg hu;have hr:=Jy hv hs;rw[hsp]at hr;have ht:s.set.type=2:=by simp[dJ]at hcut;exact hcut.1
 unfold jI at hr;rw[if_neg (by rw[IK (nR ho hg)];exact Bool.false_ne_true)]at hr;split at hr
 . rename_i e;rw[<- beq_iff_eq.1 e];exact hg
 . rw[ht]at hr;cases hr
theorem DZ{z:aP}{n:Bs}(hne:n ≠ z.apex):b9 z.sets ⟨n,2⟩=true ↔ n∈cD z.apex z.sets:=by
 rw[lk];simp only[b9,List.any_eq_true,is,aN,beq_iff_eq,dJ,Bool.not_eq_true',beq_eq_false_iff_ne];constructor
 . rintro⟨s,hs,h1,h2⟩;exact⟨s,hs,⟨h2,by rw[h1];exact hne⟩,h1⟩
 . rintro⟨s,hs,⟨h1,_⟩,h2⟩;exact⟨s,hs,h2,h1⟩
theorem mS{a b c:Bs}(h:aL a b=true)(k:aL b c=true):aL a c=true:=by
 rw[ee]at *; exact k.trans h
theorem rE{a b:Bs}(h:aL a b=true)(k:aL b a=true):a=b:=by
 rw[ee]at *;exact vm ((k.eq_of_length (Nat.le_antisymm k.length_le h.length_le)))
theorem tA{n c:Bs}(hn:aj n=true)(h:aL n c=true)(hne:n ≠ c):aL (cn n) c=true:=(jW hn h hne).2.1
theorem sU{n:Bs}(hn:aj n=true):aL n (cn n)=true:=by
 unfold aL;rw[uL hn];exact List.isSuffixOf_iff_suffix.2 (List.tail_suffix _)
theorem qJ{z:aP}:∀{f:Nat} {n c:Bs},aj n=true->mI z f n=some c->c∈cD z.apex z.sets/\aL n c=true
 | 0,n,c,_,h=>by simp[mI]at h
 | f+1,n,c,hv,h=>by
  unfold mI at h;split at h
  . cases h
  . rename_i hne;split at h
    . rename_i hh;cases h;exact⟨(DZ hne).1 hh,fp n⟩
    . obtain⟨h1,h2⟩:=qJ (eS hv) h;exact⟨h1,mS (sU hv) h2⟩
theorem wA{z:aP}(ho:Ordered z):∀{f:Nat} {n:Bs},aj n=true->aL n z.apex=true->f=(bc n).length+1->mI z f n=none-> ∀c∈cD z.apex z.sets,aL n c=false
 | 0,n,_,_,hf,_=>by omega
 | f+1,n,hv,hu,hf,h=>by
  intro c hc;obtain⟨s,hs,hcut,hnm⟩:=(lk _ _ _).1 hc;have hca:aL c z.apex=true:=by
   have:=ho.under s hs;unfold bI at this;rw[if_pos ⟨ho.name s hs,ho.apex⟩]at this;rw[<- hnm];exact this
  have hne' :c ≠ z.apex:=by simp[dJ]at hcut;rw[<- hnm];exact hcut.2
  unfold mI at h;split at h
  . rename_i e;cases hun:aL n c with
    | false=>rfl
    | true=>rw[e]at hun;exact absurd (rE hca hun) hne'
  . rename_i hne;split at h
    . cases h
    . rename_i hh;obtain⟨_,k2,k3⟩:=jW hv hu hne;have ih:=wA ho (eS hv) k2 (by omega) h c hc;cases hun:aL n c with
      | false=>rfl
      | true =>
       by_cases e:n=c
       . subst e;exact absurd ((DZ hne).2 hc) hh
       . rw[tA hv hun e]at ih;cases ih
theorem GR{z:aP}(hv:bD z=true){n:Bs}(hn:aj n=true)(hu:aL n z.apex=true) :
 (se z n=none/\spec (bN z) n=[])\/ ∃c,se z n=some c/\spec (bN z) n=c/\c∈bN z/\c ≠ []:=by
 have ho:=bx hv;obtain⟨hA,ha,_⟩:=j8 ho;cases h:se z n with
 | none=>exact .inl ⟨rfl,pt fun c hc=>wA ho hn hu rfl h c (oC hc)⟩
 | some c =>
  obtain⟨h1,h2⟩:=qJ hn h;have h3:=AZ hv h1;exact .inr ⟨c,rfl,lA hA ha h3 h2,h3,jY (nR ho h3)⟩
theorem Is{z:aP}(ho:Ordered z){s:Signed}(hs:s∈z.sets):aL s.set.name z.apex=true:=by
 have:=ho.under s hs;unfold bI at this;rw[if_pos ⟨ho.name s hs,ho.apex⟩]at this;exact this
theorem AY(p:Bs×Int):cpl p p=0:=(jo.zero _ _).2 rfl
theorem ng{a b:Bs×Int}(h:cpl a b<0):a ≠ b:=fun e=>by subst e;rw[AY]at h;omega
abbrev RP(l:List Signed):Prop:=l.Pairwise fun a b=>cpl a.place b.place<0
theorem dw.pw:∀{l:List Signed},dw l->RP l
 | [],_=>List.Pairwise.nil
 | x::t,h=>List.Pairwise.cons (lv h) h.tail.pw
theorem RP.uniq:∀{l:List Signed},RP l-> ∀{a b:Signed},a∈l->b∈l->a.place=b.place->a=b
 | [],_,_,_,ha,_,_=>by cases ha
 | x::l,h,a,b,ha,hb,e=>by
  obtain⟨h1,h2⟩:=List.pairwise_cons.1 h;rcases List.mem_cons.1 ha with ha' | ha' <;> rcases List.mem_cons.1 hb with hb' | hb'
  . rw[ha',hb']
  . subst ha';exact(ng (h1 b hb') e).elim
  . subst hb';exact(ng (h1 a ha') e.symm).elim
  . exact RP.uniq h2 ha' hb' e
theorem mu{l:List Signed}{q:aW}:b9 l q=true ↔ ∃s∈l,s.place=q.place:=by
 simp only[b9,List.any_eq_true,kM]
def rem(q:aW)(l:List Signed):List Signed:=l.filter fun x=> !is q x
theorem zo{s:fI}(h:dW s=true):1<=s.type/\s.type<=8:=by
 unfold dW at h;simp only[aN,Bool.not_eq_true',Bool.or_eq_false_iff,Bool.not_eq_false']at h;have:=h.1.1.1.1.2;simp[within]at this;exact this
theorem yB{z:aP}(ho:Ordered z):aliases z=true ↔ ∀s∈z.sets,∀x∈z.sets,s.set.type=3->x.set.name=s.set.name->x.set.type=3\/x.set.type=8:=by
 unfold aliases;rw[ay];constructor
 . intro h s hs x hx h3 hn;obtain⟨i,hi⟩:=bV hs;obtain⟨j,hj⟩:=bV hx;have hil:=(aq.1 hi).1;have hjl:=(aq.1 hj).1;obtain⟨p,hp⟩:∃p,z.sets[i-1]? =some p:=⟨_,ah (by omega)⟩
   have hok:=h i (List.mem_range.2 hil);refine Decidable.byContradiction fun hno=>?_
   have hne3:x.set.type ≠ 3:=fun e=>hno (.inl e)
   have hne8:x.set.type ≠ 8:=fun e=>hno (.inr e)
   have hbad:lE z i=false:=by
    refine(mh hi hp).2 ⟨h3,?_⟩;rcases Nat.lt_trichotomy j i with hlt | heq | hgt
    . left
      refine⟨by omega,?_⟩;rcases Nat.lt_or_eq_of_le (show j<=i-1 by omega)with k | k
      . have a1:=(iQ (fC ho.rising k hj hp)).1;have a2:=(iQ (fC ho.rising (show i-1<i by omega) hp hi)).1;rw[hn]at a1;exact(EN a1 a2).symm
      . rw[<- k,hj]at hp;cases hp;exact hn
    . subst heq;rw[hi]at hj;cases hj;exact absurd h3 hne3
    . right
      rcases Nat.lt_or_eq_of_le (show i+1<=j by omega)with k | k
      . obtain⟨y,hy⟩:∃y,z.sets[i+1]? =some y:=⟨_,ah (by omega)⟩
        have a1:=iQ (fC ho.rising k hy hj);have a2:=(iQ (fC ho.rising (show i<i+1 by omega) hi hy)).1;have hyn:y.set.name=s.set.name:=by
         have:=a1.1;rw[hn]at this;exact EN this a2
        refine⟨y,hy,hyn,?_⟩;have:=a1.2 (hyn.trans hn.symm);have:=(zo (ho.set x hx)).2;omega
      . exact⟨x,by rw[k];exact hj,hn,hne8⟩
   rw[hbad]at hok;cases hok
 . intro h i hi;have hil:=List.mem_range.1 hi;obtain⟨s,hs⟩:∃s,z.sets[i]? =some s:=⟨_,ah hil⟩
   obtain⟨p,hp⟩:∃p,z.sets[i-1]? =some p:=⟨_,ah (by omega)⟩
   cases hb:lE z i with
   | true=>rfl
   | false =>
    obtain⟨h3,k⟩:=(mh hs hp).1 hb;have hsm:=ao hs;rcases k with ⟨k1,k2⟩ | ⟨x,k1,k2,k3⟩
    . have:=(iQ (fC ho.rising (show i-1<i by omega) hp hs)).2 k2;rcases h s hsm p (ao hp) h3 k2 with e | e <;> omega
    . have:=(iQ (fC ho.rising (show i<i+1 by omega) hs k1)).2 k2.symm;rcases h s hsm x (ao k1) h3 k2 with e | e
      . omega
      . exact absurd e k3
theorem kW{α:Type}{l:List α}{p:Nat->Bool}{q:α->Bool}(h:∀i s,l[i]? =some s->p i=q s):(List.range l.length).all p=true ↔ ∀s∈l,q s=true:=by
 rw[ay];constructor
 . intro k s hs;obtain⟨i,hi⟩:=bV hs;rw[<- h i s hi];exact k i (List.mem_range.2 (aq.1 hi).1)
 . intro k i hi;have hi:=List.mem_range.1 hi;rw[h i _ (ah hi)];exact k _ (List.getElem_mem hi)
theorem Ordered.bool{z:aP}(h:Ordered z):ordered z=true:=by
 unfold ordered;have hall:(List.range z.sets.length).all (ph z)=true:=by
  rw[ay];intro i hi;have hi:=List.mem_range.1 hi;obtain⟨s,hs⟩:∃s,z.sets[i]? =some s:=⟨_,ah hi⟩
  obtain⟨p,hp⟩:∃p,z.sets[i-1]? =some p:=⟨_,ah (by omega)⟩
  have hsm:=ao hs;have hpm:=ao hp;rw[oN hs hp,kN,h.set s hsm,h.under s hsm,qI _ _ (h.name p hpm) (h.name s hsm)];by_cases h0:i=0
  . subst h0;rfl
  . have:=fC h.rising (show i-1<i by omega) hp hs;have e:cpl (p.set.name,p.set.type) (s.set.name,s.set.type)<0:=this;have e2:¬cpl (p.set.name,p.set.type) (s.set.name,s.set.type)>=0:=by omega
    simp[e2]
 have hf:¬((z.sets.length:Int)>20000):=by have:=h.few;omega
 rw[hall,h.apex,h.tame];simp[hf]
structure Val(z:aP):Prop where
 ord:Ordered z
 start:b9 z.sets ⟨z.apex,4⟩=true
 serv:b9 z.sets ⟨z.apex,2⟩=true
 fit:∀s∈z.sets,fits s.set.type (s.set.name==z.apex)=true
 ali:∀s∈z.sets,∀x∈z.sets,s.set.type=3->x.set.name=s.set.name->x.set.type=3\/x.set.type=8
 cut:∀s∈z.sets,jI s (spec (bN z) s.set.name)=false
 sig:∀s∈z.sets,lX s (spec (bN z) s.set.name)=false
 form:∀s∈z.sets,fc s.sigs z.apex=true
theorem DW(z:aP):(List.range z.sets.length).all (iK z)=true ↔ ∀s∈z.sets,fits s.set.type (s.set.name==z.apex)=true :=
 kW fun i s h=>by unfold iK;rw[h]
theorem Bd(z:aP):mK z=true ↔ ∀s∈z.sets,fc s.sigs z.apex=true :=
 kW fun i s h=>by unfold kU;rw[h]
theorem yI{z:aP}(ho:Ordered z):lG z (cL z)=true ↔ ∀s∈z.sets,jI s (spec (bN z) s.set.name)=false:=by
 unfold lG;rw[kW (q:=fun s=> !jI s (spec (bN z) s.set.name)) fun i s h=>by unfold cutAt;rw[yx h ho,h]];simp only[Bool.not_eq_true']
theorem zq{z:aP}(ho:Ordered z):mQ z (cL z)=true ↔ ∀s∈z.sets,lX s (spec (bN z) s.set.name)=false:=by
 unfold mQ;rw[kW (q:=fun s=> !lX s (spec (bN z) s.set.name)) fun i s h=>by unfold n5;rw[yx h ho,h]];simp only[Bool.not_eq_true']
theorem qs{z:aP}:bD z=true ↔ Val z:=by
 constructor
 . intro h;have ho:=bx h;unfold bD gP at h;simp only[aN]at h;obtain⟨⟨_,⟨⟨a1,a2⟩,a3⟩⟩,⟨⟨b1,b2⟩,b3⟩,b4⟩:=h;exact⟨ho,a1,a2,(DW z).1 a3,(yB ho).1 b1,(yI ho).1 b2,(zq ho).1 b3,(Bd z).1 b4⟩
 . intro h;unfold bD gP;dsimp only;rw[h.ord.bool,h.start,h.serv,(DW z).2 h.fit,(yB h.ord).2 h.ali,(yI h.ord).2 h.cut,(zq h.ord).2 h.sig,(Bd z).2 h.form];rfl
theorem F3{z:aP}(ho:Ordered z)(n:Bs):(spec (bN z) n=[]/\ ∀c∈cD z.apex z.sets,aL n c=false) \/
 (spec (bN z) n∈cD z.apex z.sets/\aL n (spec (bN z) n)=true/\ ∀c∈cD z.apex z.sets,aL n c=true->aL c (spec (bN z) n)=true):=by
 obtain⟨hA,ha,hg⟩:=j8 ho;by_cases he:∃h∈bN z,aL n h=true
 . obtain⟨h,hm,hu⟩:=he;have e:=lA hA ha hm hu;rw[e];refine .inr ⟨oC hm,hu,fun c hc hn=>?_⟩;obtain⟨g,hgm,hgu⟩:=hg c hc;have e2:=lA hA ha hgm (mS hn hgu);rw[<- e,e2];exact hgu
 . have hno:∀h∈bN z,aL n h=false:=fun h hm=>by
    cases hu:aL n h with
    | false=>rfl
    | true=>exact(he ⟨h,hm,hu⟩).elim
   refine .inl ⟨pt hno,fun c hc=>?_⟩;cases hu:aL n c with
   | false=>rfl
   | true =>
    obtain⟨g,hgm,hgu⟩:=hg c hc;exact(he ⟨g,hgm,mS hu hgu⟩).elim
theorem GS{z:aP}(ho:Ordered z){c:Bs}(h:c∈cD z.apex z.sets):c ≠ []/\c ≠ z.apex/\aj c=true/\aL c z.apex=true/\b9 z.sets ⟨c,2⟩=true:=by
 obtain⟨s,hs,h1,h2⟩:=(lk _ _ _).1 h;subst h2;unfold dJ at h1;simp only[aN,beq_iff_eq,Bool.not_eq_true',beq_eq_false_iff_ne]at h1;exact⟨jY (ho.name s hs),h1.2,ho.name s hs,Is ho hs,mu.2 ⟨s,hs,by show(s.set.name,s.set.type)=_;rw[h1.1];rfl⟩⟩
theorem Kv{s:Signed}(h:dW s.set=true):bB (qOf s)=true:=by
 have h1:=iW h;have h2:=zo h;unfold bB qOf;simp only[h1,aC,aN,decide_eq_true_eq];exact⟨h2.1,h2.2⟩
theorem kY{z:aP}(hv:bD z=true){s:Signed}(hs:s∈z.sets):Ld z (qOf s)=(s,true,0):=by
 have ho:=bx hv;have hh:b9 z.sets (qOf s)=true:=mu.2 ⟨s,hs,rfl⟩;obtain⟨x,hx,hm,hp⟩:=Be ho (q:=qOf s) (ho.name s hs) hh;have e:=ho.rising.pw.uniq hm hs hp;subst e;unfold Ld;rw[if_neg (by simp[Kv (ho.set _ hs),hv]),if_neg (by simp[hh]),hx];rfl
theorem KZ{z:aP}(hv:bD z=true){c n:Bs}(hc:c∈cD z.apex z.sets)(hu:aL n c=true):spec (bN z) n=c:=by
 obtain⟨hA,ha,_⟩:=j8 (bx hv);exact lA hA ha (AZ hv hc) hu
theorem nN{l:List Signed}{q:aW}(h:b9 l q=true):∃(k:Nat) (s:Signed),atI l q=k/\l[k]? =some s/\s.place=q.place:=by
 unfold atI;cases hf:l.findIdx? (is q)with
 | none =>
  rw[List.findIdx?_eq_none_iff]at hf;unfold b9 at h;rw[List.any_eq_true]at h;obtain⟨s,hs,e⟩:=h;rw[hf s hs]at e;cases e
 | some k =>
  obtain⟨h1,h2,_⟩:=List.findIdx?_eq_some_iff_getElem.1 hf;exact⟨k,l[k],rfl,ah h1,(kM q _).1 h2⟩
theorem MK{l:List Signed}(hl:RP l){q:aW}{k:Nat}{s:Signed}(hk:l[k]? =some s)(hp:s.place=q.place):posOf l q=k:=by
 unfold posOf;have h1:l=l.take k++s::l.drop (k+1):=by
  obtain⟨hlt,e⟩:=aq.1 hk
  conv=>lhs;rw[<- List.take_append_drop k l,List.drop_eq_getElem_cons hlt,e]
 have hlt:k<l.length:=(aq.1 hk).1;have h2:∀x∈l.take k,decide (cpl x.place q.place<0)=true:=fun x hx=>by
  have hl' :=hl;rw[h1]at hl';have:=(List.pairwise_append.1 hl').2.2 x hx s (List.mem_cons_self ..);rw[<- hp];simpa using this
 conv=>lhs;rw[h1]
 rw[List.takeWhile_append_of_pos h2,List.takeWhile_cons,if_neg (by rw[hp,AY];simp)];simp;omega
def bq(z:aP)(n:Bs):Bs:=((cD z.apex z.sets).find? fun c=>aL n c).getD []
theorem Ju{z:aP}(hv:bD z=true)(n:Bs):bq z n=spec (bN z) n:=by
 unfold bq;cases hf:(cD z.apex z.sets).find? fun c=>aL n c with
 | none =>
  rw[List.find?_eq_none]at hf;rcases F3 (bx hv) n with ⟨e,_⟩ | ⟨e1,e2,_⟩
  . rw[e];rfl
  . exact absurd e2 (hf _ e1)
 | some c =>
  have h1:=List.find?_some hf;have h2:=List.mem_of_find?_eq_some hf;rw[KZ hv h2 h1];rfl
theorem DT{z:aP}{n:Bs}(hv:bD z=true)(hn:aj n=true)(hu:aL n z.apex=true):dS z n=(bq z n, !(bq z n==[]),0):=by
 have ha:=(bx hv).apex;have hu' :(bI n z.apex).1=true:=by unfold bI;rw[if_pos ⟨hn,ha⟩];exact hu
 rw[Ju hv];unfold dS;rw[if_neg (by simp[hv,hn]),if_neg (by simp[hu'])];rcases GR hv hn hu with ⟨e1,e2⟩ | ⟨c,e1,e2,_,e3⟩
 . rw[e1,e2];rfl
 . rw[e1,e2];have:(c==[])=false:=by simpa using e3
   rw[this];rfl
def ref(o:Bool)(s:Signed):Bool:=o||(s.set.type==2)
def mark(s:Signed)(o:Bool):Bs:=if ref o s=true then[]else s.set.name++[0]
end NP
namespace Go.Proofs.YtcecidfnchcagaaGreatDoor
open NQ Go NP Go.RowKit
theorem Il(q:aW):NQ.Fn cx 114 [.agg (cm q)] (.d (.bool (bB q))) []:=by
 refine aM bf mixed Tryz.func114 (by kernel_rfl) rfl (ag rfl) ?_;conv=>whnf
 (refine⟨_,_,lg q.name,?_⟩;conv=>whnf)
 (refine ae (fun h=>?_) (fun h=>?_) <;> (rw[h];conv=>whnf))
 . have h1:=h
   (refine ae (fun h=>?_) (fun h=>?_) <;> (rw[h];conv=>whnf))
   . refine af rfl ?_;show AV.d (D.bool _)=_;simp only[bB, *, if_true,if_false,av,aF,aE,aG,aK,aH,ax,aA,aB,aC,aD,az]
   . refine af rfl ?_;show AV.d (D.bool _)=_;simp only[bB, *, if_true,if_false,av,aF,aE,aG,aK,aH,ax,aA,aB,aC,aD,az]
 . refine af rfl ?_;show AV.d (D.bool _)=_;simp only[bB, *, if_true,if_false,av,aF,aE,aG,aK,aH,ax,aA,aB,aC,aD,az]
theorem zk(z:aP)(hn:z.sets.length<=100000):NQ.Fn cx 113 [.agg (bo z)] (.d (.bool (bD z))) []:=by
 have:=IJ z hn
 rwa [K0]at this
theorem Jv(z:aP)(n:Bs)(hn:z.sets.length<=100000)(hv:∀s∈z.sets,aj s.set.name=true)(hs:aj n=true):NQ.Fn cx 135 [.agg (bo z), .str n] (.d (.str (bq z n))) []:=by
 refine aM bf mixed Tryz.func135 (by kernel_rfl) rfl (ag rfl) ?_;conv=>whnf
 (refine⟨_,_,DU z hn,?_⟩;conv=>whnf)
 obtain⟨l,hl0⟩:∃l,l=cD z.apex z.sets:=⟨_,rfl⟩
 have hln:l.length<=100000:=by rw[hl0];exact Nat.le_trans (lH _ _) hn
 have hvl:∀c∈l,aj c=true:=fun c hc=>by
  rw[hl0]at hc;obtain⟨s,hs,e⟩:=jJ _ _ _ hc;rw[<- e];exact hv s hs
 unfold bq;rw[<- hl0];refine⟨Nat,fun k=>⟨[(1, .d (.str n)),(5, .d (.slice 1 (l.map aI))),(6, .d (.int .i64 k))],[]⟩,fun k=>k<=l.length/\(l.drop k).find? (fun c=>aL n c)=l.find? (fun c=>aL n c),fun k=>l.length-k,
  ⟨0,⟨by omega,rfl⟩,an.keep ⟨⟨rfl,rfl⟩,⟨rfl,rfl⟩,⟨rfl,rfl⟩,trivial⟩ trivial⟩,fun k ⟨hk,hf⟩=>?_⟩
 conv=>whnf
 refine ae (fun h1=>?_) (fun h1=>?_) <;> (rw[h1];conv=>whnf)
 . have hlt:k<l.length:=by simp at h1;omega
   obtain⟨c,hc⟩:∃s,l[k]? =some s:=⟨_,ah hlt⟩
   rw[drop_cons hc,List.find?_cons]at hf;refine⟨aJ k,aI c,aT hc,?_⟩
   conv=>whnf
   (refine⟨_,_,lD n c (bP hs) (bP (hvl c (ao hc))),?_⟩;conv=>whnf)
   (refine ae (fun h=>?_) (fun h=>?_) <;> (rw[h];conv=>whnf))
   . refine⟨aJ k,aI c,aT hc,?_⟩
     conv=>whnf
     refine af rfl ?_;rw[h]at hf;rw[<- hf];rfl
   . rw[h]at hf;exact⟨k+1,⟨hlt,hf⟩,by(show l.length-(k+1)<l.length-k;omega),an.keep ⟨⟨rfl,rfl⟩,⟨rfl,rfl⟩,⟨ar (by omega),rfl⟩,trivial⟩ trivial⟩
 . obtain rfl:k=l.length:=by simp at h1;omega
   refine af rfl ?_;rw[List.drop_length]at hf;rw[<- hf];rfl
end Go.Proofs.YtcecidfnchcagaaGreatDoor
namespace NP
open NQ Go
structure View where
 apex:Bs
 sets:List Signed
 q:aW
 cut:Bs
 behind:Bool
 cN:Bs
def jg:Nat->List Signed->List (List D×D)
 | _,[]=>[]
 | i,s::t=>(cm (qOf s), .int .i64 i)::jg (i+1) t
def cY(v:View):List D:=[.str v.apex, .slice 5 (v.sets.map au), .kmap (jg 0 v.sets), .str v.q.name, .int .i64 v.q.type, .str v.cut, .bool v.behind, .str v.cN]
theorem L4(q:aW)(s:Signed):cT [.str, .int .i64] ((cm q).map .d) ((cm (qOf s)).map .d)=some (is q s):=by
 show some ((q.name==s.set.name)&&((q.type==s.set.type)&&true))=_
 rw[aB];unfold is
 congr 1
 rw[Bool.beq_comm (a:=q.name),Bool.beq_comm (a:=q.type)]
theorem x8(q:aW):∀(l:List Signed) (i:Nat),lP [.str, .int .i64] (cm q) (jg i l)=some ((l.findIdx? (is q)).map fun k=>D.int .i64 ((i+k:Nat):Int))
 | [],i=>rfl
 | s::t,i=>by
  rw[jg,lP,L4];cases h:is q s with
  | true=>simp[List.findIdx?_cons,h]
  | false =>
   simp only;rw[x8 q t (i+1),List.findIdx?_cons,h];simp only[av,if_false];cases t.findIdx? (is q) <;> simp;omega
def nK(l:List Signed)(n:Bs):Nat:=(l.takeWhile fun s=>decide (aQ s.set.name n<0)).length
theorem Mo(l:List Signed)(n:Bs):nK l n<=l.length:=(List.takeWhile_sublist _).length_le
theorem ra{n:Bs}:∀{l:List Signed},l.Pairwise (fun a b=>aQ a.set.name b.set.name<=0)-> ∀{i:Nat} {s:Signed},l[i]? =some s->(nK l n<=i ↔ 0<=aQ s.set.name n)
 | [],_,i,s,h=>by cases h
 | x::l,hp,i,s,h=>by
  obtain⟨h1,h2⟩:=List.pairwise_cons.1 hp;unfold nK;rw[List.takeWhile_cons];by_cases hx:aQ x.set.name n<0
  . rw[if_pos (by simpa using hx),List.length_cons];cases i with
    | zero=>cases h;exact⟨fun h=>by omega,fun h=>by omega⟩
    | succ i =>
     have:=ra (n:=n) h2 (i:=i) (s:=s) (by simpa using h);unfold nK at this;omega
  . rw[if_neg (by simpa using hx),List.length_nil];refine⟨fun _=>?_,fun _=>Nat.zero_le _⟩;cases i with
    | zero=>cases h;omega
    | succ i =>
     have hm:s∈l:=ao (i:=i) (by simpa using h);have h3:=h1 s hm;by_cases h4:aQ s.set.name n<0
     . exact absurd (aZ.Nz h3 h4) hx
     . omega
def exB(l:List Signed)(n:Bs):Bool:=match l[nK l n]? with | some s=>(bI s.set.name n).1 | none=>false
end NP
namespace Go.Proofs.YtcecidfnchcagaaGreatDoor
open NQ Go NP Go.RowKit
theorem uN(a b:Bs):NQ.Fn cx 305 [.str a, .str b] (.d (.int .i64 (bO a b).1)) []:=by
 refine aM bf mixed Tryz.func305 (by kernel_rfl) rfl (ag rfl) ?_;conv=>whnf
 (refine⟨_,_,qw a b,?_⟩;conv=>whnf)
 exact af rfl rfl
theorem y0(a b:Bs):NQ.Fn cx 263 [.str a, .str b] (.d (.bool (bI a b).1)) []:=by
 refine aM bf mixed Tryz.func263 (by kernel_rfl) rfl (ag rfl) ?_;conv=>whnf
 (refine⟨_,_,qz a b,?_⟩;conv=>whnf)
 exact af rfl rfl
theorem FY(n c:Nat)(x y:D)(hn:n<=100000)(hc:c<=n)(hf:∀i:Nat,i<n->NQ.Fn cx 304 [.int .i64 i,x,y] (.d (.bool (decide (c<=i)))) []) :
 NQ.Fn cx 303 [.int .i64 n, .fn 304 [] [x,y]] (.d (.int .i64 c)) []:=by
 refine aM bf mixed Tryz.func303 (by kernel_rfl) rfl (ag rfl) ?_;conv=>whnf
 refine⟨Nat×Nat,fun z=>⟨[(1, .d (.fn 304 [] [x,y])),(5, .d (.int .i64 z.1)),(6, .d (.int .i64 z.2))],[]⟩,fun z=>z.1<=c/\c<=z.2/\z.2<=n,fun z=>z.2-z.1,
  ⟨(0,n),⟨Nat.zero_le _,hc,Nat.le_refl _⟩,an.keep ⟨⟨rfl,rfl⟩,⟨rfl,rfl⟩,⟨rfl,rfl⟩,trivial⟩ trivial⟩,?_⟩
 rintro⟨i,j⟩ ⟨h1,h2,h3⟩;simp only at h1 h2 h3
 conv=>whnf
 refine ae (fun hlt=>?_) (fun hlt=>?_) <;> (rw[hlt];conv=>whnf)
 . have hij:i<j:=by simp at hlt;omega
   rw[BF (by omega)]
   (refine⟨_,_,hf ((i+j) / 2) (by omega),?_⟩;conv=>whnf)
   refine ae (fun h=>?_) (fun h=>?_) <;> (rw[h];conv=>whnf)
   . have hlt:(i+j) / 2<c:=by simp at h;omega
     exact⟨((i+j) / 2+1,j),⟨hlt,h2,h3⟩,by(show j-((i+j) / 2+1)<j-i;omega),an.keep ⟨⟨rfl,rfl⟩,⟨ar (by omega),rfl⟩,⟨rfl,rfl⟩,trivial⟩ trivial⟩
   . have hle:c<=(i+j) / 2:=by simp at h;omega
     exact⟨(i,(i+j) / 2),⟨h1,hle,by(show(i+j) / 2<=n;omega)⟩,by(show(i+j) / 2-i<j-i;omega),an.keep ⟨⟨rfl,rfl⟩,⟨rfl,rfl⟩,⟨rfl,rfl⟩,trivial⟩ trivial⟩
 . obtain rfl:i=c:=by simp at hlt;omega
   exact af rfl rfl
theorem FZ(n c:Nat)(x y:D)(hn:n<=100000)(hc:c<=n)(hf:∀i:Nat,i<n->NQ.Fn cx 320 [.int .i64 i,x,y] (.d (.bool (decide (c<=i)))) []) :
 NQ.Fn cx 303 [.int .i64 n, .fn 320 [] [x,y]] (.d (.int .i64 c)) []:=by
 refine aM bf mixed Tryz.func303 (by kernel_rfl) rfl (ag rfl) ?_;conv=>whnf
 refine⟨Nat×Nat,fun z=>⟨[(1, .d (.fn 320 [] [x,y])),(5, .d (.int .i64 z.1)),(6, .d (.int .i64 z.2))],[]⟩,fun z=>z.1<=c/\c<=z.2/\z.2<=n,fun z=>z.2-z.1,
  ⟨(0,n),⟨Nat.zero_le _,hc,Nat.le_refl _⟩,an.keep ⟨⟨rfl,rfl⟩,⟨rfl,rfl⟩,⟨rfl,rfl⟩,trivial⟩ trivial⟩,?_⟩
 rintro⟨i,j⟩ ⟨h1,h2,h3⟩;simp only at h1 h2 h3
 conv=>whnf
 refine ae (fun hlt=>?_) (fun hlt=>?_) <;> (rw[hlt];conv=>whnf)
 . have hij:i<j:=by simp at hlt;omega
   rw[BF (by omega)]
   (refine⟨_,_,hf ((i+j) / 2) (by omega),?_⟩;conv=>whnf)
   refine ae (fun h=>?_) (fun h=>?_) <;> (rw[h];conv=>whnf)
   . have hlt:(i+j) / 2<c:=by simp at h;omega
     exact⟨((i+j) / 2+1,j),⟨hlt,h2,h3⟩,by(show j-((i+j) / 2+1)<j-i;omega),an.keep ⟨⟨rfl,rfl⟩,⟨ar (by omega),rfl⟩,⟨rfl,rfl⟩,trivial⟩ trivial⟩
   . have hle:c<=(i+j) / 2:=by simp at h;omega
     exact⟨(i,(i+j) / 2),⟨h1,hle,by(show(i+j) / 2<=n;omega)⟩,by(show(i+j) / 2-i<j-i;omega),an.keep ⟨⟨rfl,rfl⟩,⟨rfl,rfl⟩,⟨rfl,rfl⟩,trivial⟩ trivial⟩
 . obtain rfl:i=c:=by simp at hlt;omega
   exact af rfl rfl
theorem iP(v:View)(n:Bs)(t:Int):NQ.Fn cx 262 [.ptr (cY v), .str n, .int .i64 t] (.d (.int .i64 (atI v.sets ⟨n,t⟩))) []:=by
 refine aM bf mixed Tryz.func262 (by kernel_rfl) rfl (ag rfl) ?_;conv=>whnf
 have hk:=x8 ⟨n,t⟩ v.sets 0;unfold atI;cases hf:v.sets.findIdx? (is ⟨n,t⟩)with
 | some k =>
  rw[hf]at hk;refine⟨some (.int .i64 k),by rw[Option.map_some,Nat.zero_add]at hk;exact hk,?_⟩
  conv=>whnf
  exact af rfl rfl
 | none =>
  rw[hf]at hk;refine⟨none,hk,?_⟩
  conv=>whnf
  exact af rfl rfl
theorem rB(v:View):NQ.Fn cx 266 [.ptr (cY v)] (.d (.int .i64 (atI v.sets ⟨v.apex,4⟩))) []:=by
 refine aM bf mixed Tryz.func266 (by kernel_rfl) rfl (ag rfl) ?_;conv=>whnf
 (refine⟨_,_,iP v v.apex 4,?_⟩;conv=>whnf)
 exact af rfl rfl
theorem E8(v:View)(n:Bs)(i:Nat)(s:Signed)(hs:v.sets[i]? =some s):NQ.Fn cx 304 [.int .i64 i, .ptr [.ptr (cY v)], .ptr [.str n]] (.d (.bool (decide ((bO s.set.name n).1>=0)))) []:=by
 refine aM bf mixed Tryz.func304 (by kernel_rfl) rfl (ag rfl) ?_;conv=>whnf
 (refine⟨(by kernel_rfl:bA _ _=true),?_⟩;conv=>whnf)
 refine⟨aJ i,au s,aT hs,?_⟩
 conv=>whnf
 (refine⟨_,_,uN s.set.name n,?_⟩;conv=>whnf)
 exact af rfl rfl
theorem sm(v:View)(n:Bs)(hn:v.sets.length<=100000)(hr:dw v.sets)(hv:∀s∈v.sets,aj s.set.name=true)(hvn:aj n=true):NQ.Fn cx 265 [.ptr (cY v), .str n] (.d (.bool (exB v.sets n))) []:=by
 refine aM bf mixed Tryz.func265 (by kernel_rfl) rfl (ag rfl) ?_;conv=>whnf
 have hp:=lz hr;have hle:=Mo v.sets n;have hS:=FY v.sets.length (nK v.sets n) (.ptr [.ptr (cY v)]) (.ptr [.str n]) hn hle (fun i hi=>by
  obtain⟨s,hs⟩:∃s,v.sets[i]? =some s:=⟨_,ah hi⟩
  have h:=E8 v n i s hs;have e:decide ((bO s.set.name n).1>=0)=decide (nK v.sets n<=i):=by
   have hc:(bO s.set.name n).1=aQ s.set.name n:=by unfold bO;rw[if_pos ⟨hv s (ao hs),hvn⟩]
   rw[hc,decide_eq_decide];exact(ra hp hs).symm
  rwa [e]at h)
 have hl:((v.sets.map au).length:Int)=(v.sets.length:Int):=by rw[ak]
 rw[hl];refine⟨_,hS,rfl,?_⟩
 conv=>whnf
 (refine⟨(by kernel_rfl:bA _ _=true),?_⟩;conv=>whnf)
 rw[hl];unfold exB;cases hg:v.sets[nK v.sets n]? with
 | none =>
  have:decide (((nK v.sets n:Nat):Int)<(v.sets.length:Int))=false:=by
   rw[List.getElem?_eq_none_iff]at hg;rw[decide_eq_false];omega
  rw[this]
  conv=>whnf
  exact af rfl rfl
 | some s =>
  have:decide (((nK v.sets n:Nat):Int)<(v.sets.length:Int))=true:=by
   have:=(aq.1 hg).1;rw[decide_eq_true];omega
  rw[this]
  conv=>whnf
  refine⟨aJ _,au s,aT hg,?_⟩
  conv=>whnf
  (refine⟨_,_,y0 s.set.name n,?_⟩;conv=>whnf)
  exact af rfl rfl
theorem J2(l:List Int)(x:Int)(hl:l.length<=100000):NQ.Fn cx 318 [.slice 1 (l.map dj), .int .i64 x] (.d (.int .i64 (match l.findIdx? (· ==x)with | some k=>(k:Int) | none=> -1))) []:=by
 refine aM bf mixed Tryz.func318 (by kernel_rfl) rfl (ag rfl) ?_;conv=>whnf
 refine⟨Nat,fun k=>⟨[(0, .d (.slice 1 (l.map dj))),(1, .d (.int .i64 x)),(7, .d (.int .i64 ((l.map dj).length:Int))),(8, .d (.int .i64 k))],[]⟩,fun k=>k<=l.length/\ ∀j y,j<k->l[j]? =some y->(y==x)=false,fun k=>l.length-k,
  ⟨0,⟨by omega,fun j y h=>by omega⟩,an.keep ⟨⟨rfl,rfl⟩,⟨rfl,rfl⟩,⟨rfl,rfl⟩,⟨rfl,rfl⟩,trivial⟩ trivial⟩,fun k ⟨hk,hall⟩=>?_⟩
 conv=>whnf
 refine ae (fun h1=>?_) (fun h1=>?_) <;> (rw[h1];conv=>whnf)
 . have hlt:k<l.length:=by simp at h1;omega
   obtain⟨y,hy⟩:∃s,l[k]? =some s:=⟨_,ah hlt⟩
   refine⟨aJ k,dj y,aT hy,?_⟩
   conv=>whnf
   (refine ae (fun h=>?_) (fun h=>?_) <;> (rw[h];conv=>whnf))
   . refine af rfl ?_;have:l.findIdx? (· ==x)=some k:=by
      rw[List.findIdx?_eq_some_iff_getElem];refine⟨hlt,?_,fun j hj=>?_⟩
      . obtain⟨_,e⟩:=aq.1 hy;rw[e];simp at h ⊢;exact h.symm
      . have:=hall j l[j] hj (ah (by omega));simpa using this
     rw[this];rfl
   . refine⟨k+1,⟨hlt,fun j z hj hz=>?_⟩,by(show l.length-(k+1)<l.length-k;omega),an.keep ⟨⟨rfl,rfl⟩,⟨rfl,rfl⟩,⟨rfl,rfl⟩,⟨ar (by omega),rfl⟩,trivial⟩ trivial⟩;rcases Nat.lt_or_eq_of_le (Nat.le_of_lt_succ hj)with h2 | rfl
     . exact hall j z h2 hz
     . rw[hy]at hz;cases hz;simp at h ⊢;exact fun e=>h e.symm
 . obtain rfl:k=l.length:=by simp at h1;omega
   refine af rfl ?_;have:l.findIdx? (· ==x)=none:=by
    rw[List.findIdx?_eq_none_iff];intro y hy;obtain⟨j,hj⟩:=bV hy;exact hall j y (aq.1 hj).1 hj
   rw[this];rfl
theorem CN(l:List Int)(x:Int)(hl:l.length<=100000):NQ.Fn cx 302 [.slice 1 (l.map dj), .int .i64 x] (.d (.bool (l.contains x))) []:=by
 refine aM bf mixed Tryz.func302 (by kernel_rfl) rfl (ag rfl) ?_;conv=>whnf
 (refine⟨_,_,J2 l x hl,?_⟩;conv=>whnf)
 refine af rfl ?_;show AV.d (D.bool (decide ((match l.findIdx? (· ==x)with | some k=>(k:Int) | none=> -1)>=0)))=_
 congr 2
 cases h:l.findIdx? (· ==x)with
 | some k =>
  obtain⟨h1,h2,_⟩:=List.findIdx?_eq_some_iff_getElem.1 h;have:l.contains x=true:=by
   rw[dm];have e:l[k]=x:=by simpa using h2
   exact e ▸ List.getElem_mem h1
  rw[this,decide_eq_true];exact aJ k
 | none =>
  have:l.contains x=false:=by
   rw[<- Bool.not_eq_true,dm];intro hm;have:=List.findIdx?_eq_none_iff.1 h x hm;simp at this
  rw[this];rfl
end Go.Proofs.YtcecidfnchcagaaGreatDoor
namespace NP
open NQ Go
structure Ans where
 kind:Int
 sets:List Signed
 cut:Bs
 deriving DecidableEq
def dv(a:Ans):List D:=[.int .i64 a.kind, .slice 5 (a.sets.map au), .str a.cut]
def cg(l:List Signed):List Int->List Int->List Signed
 | _,[]=>[]
 | seen,p::t=>if (decide (p<0)||seen.contains p)=true then cg l (seen++[p]) t else(l[p.toNat]?).getD xG::cg l (seen++[p]) t
end NP
namespace Go.Proofs.YtcecidfnchcagaaGreatDoor
open NQ Go NP Go.RowKit
theorem FW(l:List Int)(k:Nat):((l.map dj).drop ((0:Nat):Int).toNat).take (((k:Nat):Int).toNat-((0:Nat):Int).toNat)=(l.take k).map dj:=by
 simp[List.map_take]
theorem gO(v:View)(kind:Int)(ps:List Int)(hn:ps.length<=1000)(hp:∀p∈ps,p<v.sets.length)(hs:∀s∈v.sets,Small s) :
 FnB cx 264 (cY v) [.int .i64 kind, .slice 1 (ps.map dj)] (.agg ((dv ⟨kind,cg v.sets [] ps,[]⟩).map .d)) (cY v):=by
 refine fY (fun _=>[]) bf mixed Tryz.func264 (by kernel_rfl) rfl (ag rfl) (ag rfl) ?_;conv=>whnf
 refine ⟨Nat × List Signed, fun x => ⟨[(0, .ptr 100000 0), (2, .d (.slice 1 (ps.map dj))), (6, .ptr 6 0), (7, .ptr 7 0), (13, .d (.slice 1 (ps.map dj))), (14, .d (.int .i64 ((ps.map dj).length : Int))), (15, .d (.int .i64 x.1))],
     [(100000, .box ((cY v).map .d)),(6, .box [.d (.int .i64 0), .nil 5, .d (.str [])]),(7, .box [.d (.int .i64 kind), .own 200, .d (.str [])]),(200, .row 79 5 (x.2.map au))]⟩,
  fun x=>x.1<=ps.length/\x.2.length<=x.1/\x.2++cg v.sets (ps.take x.1) (ps.drop x.1)=cg v.sets [] ps,fun x=>ps.length-x.1,
  ⟨(0,[]),⟨by omega,by simp,by simp⟩,(an.rb 7 1 200 5 [.d (.int .i64 kind), .nil 5, .d (.str [])] 79 5 rfl rfl rfl (by decide)).trans (an.keep ⟨⟨rfl,rfl⟩,⟨rfl,rfl⟩,⟨rfl,rfl⟩,⟨rfl,rfl⟩,⟨rfl,rfl⟩,⟨rfl,rfl⟩,⟨rfl,rfl⟩,trivial⟩ ⟨⟨rfl,rfl⟩,⟨rfl,rfl⟩,⟨rfl,rfl⟩,⟨rfl,rfl⟩,trivial⟩)⟩,?_⟩
 rintro⟨k,acc⟩ ⟨hk,hl,hc⟩;simp only at hk hl hc
 conv=>whnf
 refine ae (fun h1=>?_) (fun h1=>?_) <;> (rw[h1];conv=>whnf)
 . have hlt:k<ps.length:=by simp at h1;omega
   obtain⟨p,hpk⟩:∃p,ps[k]? =some p:=⟨_,ah hlt⟩
   rw[drop_cons hpk,cg, <- bw hpk]at hc;refine⟨aJ k,dj p,aT hpk,?_⟩
   conv=>whnf
   have skip:(decide (p<0)||(ps.take k).contains p)=true-> ∀st,an cx st ⟨[(0, .ptr 100000 0),(2, .d (.slice 1 (ps.map dj))),(6, .ptr 6 0),(7, .ptr 7 0),(13, .d (.slice 1 (ps.map dj))),(14, .d (.int .i64 ((ps.map dj).length:Int))),(15, .d (.int .i64 ((k+1:Nat):Int)))],
    [(100000, .box ((cY v).map .d)),(6, .box [.d (.int .i64 0), .nil 5, .d (.str [])]),(7, .box [.d (.int .i64 kind), .own 200, .d (.str [])]),(200, .row 79 5 (acc.map au))]⟩ ->
    ∃y:Nat×List Signed,(y.1<=ps.length/\y.2.length<=y.1/\y.2++cg v.sets (ps.take y.1) (ps.drop y.1)=cg v.sets [] ps)/\ps.length-y.1<ps.length-k/\an cx st ⟨[(0, .ptr 100000 0),(2, .d (.slice 1 (ps.map dj))),(6, .ptr 6 0),(7, .ptr 7 0),(13, .d (.slice 1 (ps.map dj))),(14, .d (.int .i64 ((ps.map dj).length:Int))),(15, .d (.int .i64 y.1))],
    [(100000, .box ((cY v).map .d)),(6, .box [.d (.int .i64 0), .nil 5, .d (.str [])]),(7, .box [.d (.int .i64 kind), .own 200, .d (.str [])]),(200, .row 79 5 (y.2.map au))]⟩:=fun hb st hw=>by
    rw[if_pos hb]at hc;exact⟨(k+1,acc),⟨hlt,by(show acc.length<=k+1;omega),hc⟩,by(show ps.length-(k+1)<ps.length-k;omega),hw⟩
   (refine ae (fun h=>?_) (fun h=>?_) <;> (rw[h];conv=>whnf))
   . exact skip (by rw[h];rfl) _ (an.keep ⟨⟨rfl,rfl⟩,⟨rfl,rfl⟩,⟨rfl,rfl⟩,⟨rfl,rfl⟩,⟨rfl,rfl⟩,⟨rfl,rfl⟩,⟨ar (by omega),rfl⟩,trivial⟩ ⟨⟨rfl,rfl⟩,⟨rfl,rfl⟩,⟨rfl,rfl⟩,⟨rfl,rfl⟩,trivial⟩)
   have hp0:=h;refine⟨by omega,by omega,by(rw[ak];omega),?_⟩
   conv=>whnf
   rw[FW]
   (refine⟨_,_,CN (ps.take k) p (by(rw[List.length_take];omega)),?_⟩;conv=>whnf)
   (refine ae (fun h=>?_) (fun h=>?_) <;> (rw[h];conv=>whnf))
   . exact skip (by rw[h,aH]) _ (an.keep ⟨⟨rfl,rfl⟩,⟨rfl,rfl⟩,⟨rfl,rfl⟩,⟨rfl,rfl⟩,⟨rfl,rfl⟩,⟨rfl,rfl⟩,⟨ar (by omega),rfl⟩,trivial⟩ ⟨⟨rfl,rfl⟩,⟨rfl,rfl⟩,⟨rfl,rfl⟩,⟨rfl,rfl⟩,trivial⟩)
   have hge:0<=p:=by simp at hp0;omega
   have hplt:=hp p (ao hpk);obtain⟨s,hsp⟩:∃s,v.sets[p.toNat]? =some s:=⟨_,ah (by omega)⟩
   have hsm:=hs s (ao hsp);rw[if_neg (by rw[hp0,h];simp),hsp]at hc;refine⟨hge,au s,by(rw[aR,hsp];rfl),?_⟩
   conv=>whnf
   (refine⟨_,_,AN _ (by simpa using hsm.1),?_⟩;conv=>whnf)
   (refine⟨_,_,AO _ (by simpa using hsm.2),?_⟩;conv=>whnf)
   refine⟨by(show(acc.map au).length+1<=_;rw[ak];omega),by(show((acc.map au).length+1)*80<=_;rw[ak];omega),?_⟩
   conv=>whnf
   refine⟨(k+1,acc++[s]),⟨hlt,by(simp;omega),by(rw[<- hc];simp)⟩,by(show ps.length-(k+1)<ps.length-k;omega),an.keep ⟨⟨rfl,rfl⟩,⟨rfl,rfl⟩,⟨rfl,rfl⟩,⟨rfl,rfl⟩,⟨rfl,rfl⟩,⟨rfl,rfl⟩,⟨ar (by omega),rfl⟩,trivial⟩ ⟨⟨rfl,rfl⟩,⟨rfl,rfl⟩,⟨rfl,rfl⟩,⟨by(show some (Blk.row _ _ (_++_))=some (Blk.row _ _ _);rw[List.map_append];rfl),rfl⟩,trivial⟩⟩
 . obtain rfl:k=ps.length:=by simp at h1;omega
   rw[List.drop_length,cg,List.append_nil]at hc;refine⟨[200],_,_,rfl,?_,rfl,rfl⟩;rw[<- hc];rfl
end Go.Proofs.YtcecidfnchcagaaGreatDoor
namespace NP
open NQ Go
end NP
namespace Go.Proofs.YtcecidfnchcagaaGreatDoor
open NQ Go NP Go.RowKit
theorem uZ(z:aP)(hv:bD z=true):NQ.Fn cx 75 [.agg (bo z)] (.d (.int .i64 (iU z))) []:=by
 have ho:=bx hv;have hfew:=ho.few;refine aM bf mixed Tryz.func75 (by kernel_rfl) rfl (ag rfl) ?_;conv=>whnf
 obtain⟨k,s,hk,hs,hp⟩:=nN (qs.1 hv).start;have fA:=z8 z ⟨z.apex,4⟩ (by omega);rw[hk]at fA;obtain⟨d,hd⟩:=zm (ho.set s (ao hs));have e:iU z=d.n:=by
  unfold iU;rw[MK ho.rising.pw hs hp,hs];simp only[hd]
 (refine⟨(by kernel_rfl:bA _ _=true),?_⟩;conv=>whnf)
 (refine⟨_,_,fA,?_⟩;conv=>whnf)
 refine⟨aJ k,au s,aT hs,?_⟩
 conv=>whnf
 refine⟨by decide,b5 d,by(show(s.set.data.map b5)[(0:Int).toNat]? =_;simp[hd]),?_⟩
 conv=>whnf
 exact af rfl (by rw[e];rfl)
end Go.Proofs.YtcecidfnchcagaaGreatDoor
