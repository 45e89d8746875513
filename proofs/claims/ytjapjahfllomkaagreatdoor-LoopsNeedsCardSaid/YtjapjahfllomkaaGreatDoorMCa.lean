/-
  Texts of the proof, merged in build order.
-/
import Derived.Test.YtjapjahfllomkaaGreatDoorAbM
import Derived.Test.YtjapjahfllomkaaGreatDoorMVa
import Derived.Test.YtjapjahfllomkaaGreatDoorTyM
import Derived.WalkKit
import Derived.Deep.LoopGhost
import Derived.Deep.RegionLaw
import Derived.Lib.Walk
import Derived.Lib.SliceRun
import Derived.Lib.SlicesDelete
import Derived.Shelf.RegionOpenPlain
import Derived.Lib.Hide
import Derived.Test.YtjapjahfllomkaaGreatDoorMQt
import Derived.Laws.IdiomCopy
import Derived.Laws.CopyRow
import Derived.Lib.AppendZerosOnto
import Derived.Laws.NewBlocks
import Derived.Shelf.Spec.SlicesInsert
set_option linter.all false
set_option maxRecDepth 100000
namespace NP
open NQ Go
def ye:Signed:=⟨⟨[],0,0,[]⟩,[]⟩
def Small(s:Signed):Prop:=s.set.data.length<=100000/\s.sigs.length<=100000
def L8(z:aQ)(q:bg):Signed×Bool×Int :=
 if (!bZ q|| !bE z)=true then(ye,false,1)else if (!cd z.sets q)=true then(ye,false,0)else((z.sets[posOf z.sets q]?).getD ye,true,0)
theorem tk{l:List Sig}{a:Bs}(h:fm l a=true):l.length<=6:=by
 simp[fm]at h;omega
theorem xV{s:fZ}(h:dZ s=true):s.data.length<=8:=by
 unfold dZ at h;simp only[aP,Bool.not_eq_true',Bool.or_eq_false_iff,Bool.not_eq_false']at h;have:=h.1.1.2;simp[within]at this;omega
theorem qq{z:aQ}(h:bE z=true):∀s∈z.sets,Small s:=fun s hs=>by
 have ho:=bz h;refine⟨by have:=xV (ho.set s hs);omega,?_⟩;simp only[bE,aP]at h;have hf:=h.2.2;simp only[nf,ax]at hf;obtain⟨i,hi,rfl⟩:=List.getElem_of_mem hs;have:=hf i (List.mem_range.2 hi);simp only[lh,ai hi]at this;have:=tk this;omega
end NP
namespace Go.Proofs.YtjapjahfllomkaaGreatDoor
open NQ Go NP Go.RowKit
theorem Bf(rows:List (List D))(hl:rows.length<=100000):NQ.Fn cx 165 [.slice 3 rows] (.d (.slice 3 rows)) []:=by
 refine aO bf mixed Tryz.func165 (by kernel_rfl) rfl (ah rfl) ?_;conv=>whnf
 refine⟨fun h=>?_,?_⟩
 . refine af rfl ?_;rw[List.isEmpty_iff.1 h];rfl
 . conv=>whnf
   refine⟨by(show 0+rows.length<=_;omega),by(show(0+rows.length)*32<=_;omega),?_⟩
   conv=>whnf
   exact af rfl rfl
theorem Bg(rows:List (List D))(hl:rows.length<=100000):NQ.Fn cx 166 [.slice 6 rows] (.d (.slice 6 rows)) []:=by
 refine aO bf mixed Tryz.func166 (by kernel_rfl) rfl (ah rfl) ?_;conv=>whnf
 refine⟨fun h=>?_,?_⟩
 . refine af rfl ?_;rw[List.isEmpty_iff.1 h];rfl
 . conv=>whnf
   refine⟨by(show 0+rows.length<=_;omega),by(show(0+rows.length)*56<=_;omega),?_⟩
   conv=>whnf
   exact af rfl rfl
end Go.Proofs.YtjapjahfllomkaaGreatDoor
namespace NP
open NQ Go
def nV:aQ:=⟨[],[]⟩
def qOf(s:Signed):bg:=⟨s.set.name,s.set.type⟩
def Oz(l:List Signed)(i:Nat)(s:Signed):List Signed:=l.take i++[s]++l.drop i
def Lg(l:List Signed)(s:Signed):List Signed:=if cd l (qOf s)=true then l.set (posOf l (qOf s)) s else Oz l (posOf l (qOf s)) s
def rQ(z:aQ)(s:Signed):aQ:=⟨z.apex,Lg z.sets s⟩
def Lh(z:aQ)(s:Signed):aQ×Int :=
 if (!dZ s.set|| !bE z)=true then(nV,1)
 else if (!fm s.sigs z.apex)=true then(nV,30)
 else if (!(bx s.set.name z.apex).1)=true then(nV,20)
 else if (!fits s.set.type (s.set.name==z.apex))=true then(nV,22)
 else if (!cd z.sets (qOf s)&&decide ((z.sets.length:Int)>=20000))=true then(nV,2)
 else if (!aliases (rQ z s))=true then(nV,21)
 else if (!lW (rQ z s) (cL (rQ z s)))=true then(nV,20)
 else if (!nk (rQ z s) (cL (rQ z s)))=true then(nV,30)
 else(rQ z s,0)
end NP
namespace Go.Proofs.YtjapjahfllomkaaGreatDoor
open NQ Go NP Go.RowKit
end Go.Proofs.YtjapjahfllomkaaGreatDoor
namespace NP
open NQ Go
theorem uz{s:Bs}(h:aj s=true):(bd s).length<=8:=by
 have:=nT h;simp[okL]at this;exact this.1
theorem km{s:Bs}(h:aj s=true):s ≠ []:=by rintro rfl;revert h;decide
theorem y3{z:aQ}{i:Nat}{s:Signed}(h:z.sets[i]? =some s)(ho:Ordered z):(cL z)[i]? =some (spec (bO z) s.set.name):=by
 rw[<- sF ho,sE ho,aT,h];rfl
theorem Kh{z:aQ}(hv:bE z=true){s:Signed}(hs:s∈z.sets):jW s (spec (bO z) s.set.name)=false:=by
 have ho:=bz hv;obtain⟨i,hi⟩:=b5 hs;simp only[bE,aP]at hv;have hc:=hv.2.1.1.2;simp only[lW,ax]at hc;have:=hc i (List.mem_range.2 (ar.1 hi).1);simp only[cutAt,hi,y3 hi ho]at this;simpa using this
theorem lH(apex c:Bs):∀(l:List Signed),c∈cD apex l ↔ ∃s∈l,dK apex s=true/\s.set.name=c
 | []=>by simp[cD]
 | s::t=>by
  have ih:=lH apex c t;unfold cD;split
  . rename_i h;rw[List.mem_cons,ih];constructor
    . rintro(rfl | ⟨x,hx,k⟩)
      . exact⟨s,List.mem_cons_self .., h,rfl⟩
      . exact⟨x,aW _ hx,k⟩
    . rintro⟨x,hx,k1,k2⟩;rcases List.mem_cons.1 hx with rfl | hx
      . exact .inl k2.symm
      . exact .inr ⟨x,hx,k1,k2⟩
  . rename_i h;rw[ih];constructor
    . rintro⟨x,hx,k⟩;exact⟨x,aW _ hx,k⟩
    . rintro⟨x,hx,k1,k2⟩;rcases List.mem_cons.1 hx with rfl | hx
      . exact absurd k1 h
      . exact⟨x,hx,k1,k2⟩
theorem Jt{s:Bs}(h:aj s=true):(s==[])=false:=by have:=km h;simpa using this
theorem Bu{z:aQ}(hv:bE z=true){c:Bs}(hc:c∈cD z.apex z.sets):c∈bO z:=by
 have ho:=bz hv;obtain⟨hA,ha,hcov⟩:=kB ho;obtain⟨s,hs,hcut,rfl⟩:=(lH _ _ _).1 hc;obtain⟨g,hg,hu⟩:=hcov _ hc;have hsp:=lP hA ha hg hu;have hr:=Kh hv hs;rw[hsp]at hr;have ht:s.set.type=2:=by simp[dK]at hcut;exact hcut.1
 unfold jW at hr;rw[if_neg (by rw[Jt (om ho hg)];exact Bool.false_ne_true)]at hr;split at hr
 . rename_i e;rw[<- beq_iff_eq.1 e];exact hg
 . rw[ht]at hr;cases hr
theorem EE{z:aQ}{n:Bs}(hne:n ≠ z.apex):cd z.sets ⟨n,2⟩=true ↔ n∈cD z.apex z.sets:=by
 rw[lH];simp only[cd,List.any_eq_true,is,aP,beq_iff_eq,dK,Bool.not_eq_true',beq_eq_false_iff_ne];constructor
 . rintro⟨s,hs,h1,h2⟩;exact⟨s,hs,⟨h2,by rw[h1];exact hne⟩,h1⟩
 . rintro⟨s,hs,⟨h1,_⟩,h2⟩;exact⟨s,hs,h2,h1⟩
theorem nr{a b c:Bs}(h:aG a b=true)(k:aG b c=true):aG a c=true:=by
 rw[dN]at *; exact k.trans h
theorem oE{a b:Bs}(h:aG a b=true)(k:aG b a=true):a=b:=by
 rw[dN]at *;exact vV ((k.eq_of_length (Nat.le_antisymm k.length_le h.length_le)))
theorem ud{n c:Bs}(hn:aj n=true)(h:aG n c=true)(hne:n ≠ c):aG (cw n) c=true:=(kg hn h hne).2.1
theorem tI{n:Bs}(hn:aj n=true):aG n (cw n)=true:=by
 unfold aG;rw[vl hn];exact List.isSuffixOf_iff_suffix.2 (List.tail_suffix _)
theorem rk{z:aQ}:∀{f:Nat} {n c:Bs},aj n=true->mZ z f n=some c->c∈cD z.apex z.sets/\aG n c=true
 | 0,n,c,_,h=>by simp[mZ]at h
 | f+1,n,c,hv,h=>by
  unfold mZ at h;split at h
  . cases h
  . rename_i hne;split at h
    . rename_i hh;cases h;exact⟨(EE hne).1 hh,fF n⟩
    . obtain⟨h1,h2⟩:=rk (eV hv) h;exact⟨h1,nr (tI hv) h2⟩
theorem xc{z:aQ}(ho:Ordered z):∀{f:Nat} {n:Bs},aj n=true->aG n z.apex=true->f=(bd n).length+1->mZ z f n=none-> ∀c∈cD z.apex z.sets,aG n c=false
 | 0,n,_,_,hf,_=>by omega
 | f+1,n,hv,hu,hf,h=>by
  intro c hc;obtain⟨s,hs,hcut,hnm⟩:=(lH _ _ _).1 hc;have hca:aG c z.apex=true:=by
   have:=ho.under s hs;unfold bx at this;rw[if_pos ⟨ho.name s hs,ho.apex⟩]at this;rw[<- hnm];exact this
  have hne' :c ≠ z.apex:=by simp[dK]at hcut;rw[<- hnm];exact hcut.2
  unfold mZ at h;split at h
  . rename_i e;cases hun:aG n c with
    | false=>rfl
    | true=>rw[e]at hun;exact absurd (oE hca hun) hne'
  . rename_i hne;split at h
    . cases h
    . rename_i hh;obtain⟨_,k2,k3⟩:=kg hv hu hne;have ih:=xc ho (eV hv) k2 (by omega) h c hc;cases hun:aG n c with
      | false=>rfl
      | true =>
       by_cases e:n=c
       . subst e;exact absurd ((EE hne).2 hc) hh
       . rw[ud hv hun e]at ih;cases ih
theorem Hv{z:aQ}(hv:bE z=true){n:Bs}(hn:aj n=true)(hu:aG n z.apex=true) :
 (sL z n=none/\spec (bO z) n=[])\/ ∃c,sL z n=some c/\spec (bO z) n=c/\c∈bO z/\c ≠ []:=by
 have ho:=bz hv;obtain⟨hA,ha,_⟩:=kB ho;cases h:sL z n with
 | none=>exact .inl ⟨rfl,pR fun c hc=>xc ho hn hu rfl h c (oV hc)⟩
 | some c =>
  obtain⟨h1,h2⟩:=rk hn h;have h3:=Bu hv h1;exact .inr ⟨c,rfl,lP hA ha h3 h2,h3,km (om ho h3)⟩
theorem Jc{z:aQ}(ho:Ordered z){s:Signed}(hs:s∈z.sets):aG s.set.name z.apex=true:=by
 have:=ho.under s hs;unfold bx at this;rw[if_pos ⟨ho.name s hs,ho.apex⟩]at this;exact this
theorem Bt(p:Bs×Int):cpl p p=0:=(jG.zero _ _).2 rfl
theorem nD{a b:Bs×Int}(h:cpl a b<0):a ≠ b:=fun e=>by subst e;rw[Bt]at h;omega
abbrev RP(l:List Signed):Prop:=l.Pairwise fun a b=>cpl a.place b.place<0
theorem dA.pw:∀{l:List Signed},dA l->RP l
 | [],_=>List.Pairwise.nil
 | x::t,h=>List.Pairwise.cons (lN h) h.tail.pw
theorem RP.uniq:∀{l:List Signed},RP l-> ∀{a b:Signed},a∈l->b∈l->a.place=b.place->a=b
 | [],_,_,_,ha,_,_=>by cases ha
 | x::l,h,a,b,ha,hb,e=>by
  obtain⟨h1,h2⟩:=List.pairwise_cons.1 h;rcases List.mem_cons.1 ha with ha' | ha' <;> rcases List.mem_cons.1 hb with hb' | hb'
  . rw[ha',hb']
  . subst ha';exact(nD (h1 b hb') e).elim
  . subst hb';exact(nD (h1 a ha') e.symm).elim
  . exact RP.uniq h2 ha' hb' e
theorem mN{l:List Signed}{q:bg}:cd l q=true ↔ ∃s∈l,s.place=q.place:=by
 simp only[cd,List.any_eq_true,k7]
def rem(q:bg)(l:List Signed):List Signed:=l.filter fun x=> !is q x
theorem zU{s:fZ}(h:dZ s=true):1<=s.type/\s.type<=8:=by
 unfold dZ at h;simp only[aP,Bool.not_eq_true',Bool.or_eq_false_iff,Bool.not_eq_false']at h;have:=h.1.1.1.1.2;simp[within]at this;exact this
theorem y6{z:aQ}(ho:Ordered z):aliases z=true ↔ ∀s∈z.sets,∀x∈z.sets,s.set.type=3->x.set.name=s.set.name->x.set.type=3\/x.set.type=8:=by
 unfold aliases;rw[ax];constructor
 . intro h s hs x hx h3 hn;obtain⟨i,hi⟩:=b5 hs;obtain⟨j,hj⟩:=b5 hx;have hil:=(ar.1 hi).1;have hjl:=(ar.1 hj).1;obtain⟨p,hp⟩:∃p,z.sets[i-1]? =some p:=⟨_,ai (by omega)⟩
   have hok:=h i (List.mem_range.2 hil);refine Decidable.byContradiction fun hno=>?_
   have hne3:x.set.type ≠ 3:=fun e=>hno (.inl e)
   have hne8:x.set.type ≠ 8:=fun e=>hno (.inr e)
   have hbad:lU z i=false:=by
    refine(mG hi hp).2 ⟨h3,?_⟩;rcases Nat.lt_trichotomy j i with hlt | heq | hgt
    . left
      refine⟨by omega,?_⟩;rcases Nat.lt_or_eq_of_le (show j<=i-1 by omega)with k | k
      . have a1:=(jb (fW ho.rising k hj hp)).1;have a2:=(jb (fW ho.rising (show i-1<i by omega) hp hi)).1;rw[hn]at a1;exact(Fq a1 a2).symm
      . rw[<- k,hj]at hp;cases hp;exact hn
    . subst heq;rw[hi]at hj;cases hj;exact absurd h3 hne3
    . right
      rcases Nat.lt_or_eq_of_le (show i+1<=j by omega)with k | k
      . obtain⟨y,hy⟩:∃y,z.sets[i+1]? =some y:=⟨_,ai (by omega)⟩
        have a1:=jb (fW ho.rising k hy hj);have a2:=(jb (fW ho.rising (show i<i+1 by omega) hi hy)).1;have hyn:y.set.name=s.set.name:=by
         have:=a1.1;rw[hn]at this;exact Fq this a2
        refine⟨y,hy,hyn,?_⟩;have:=a1.2 (hyn.trans hn.symm);have:=(zU (ho.set x hx)).2;omega
      . exact⟨x,by rw[k];exact hj,hn,hne8⟩
   rw[hbad]at hok;cases hok
 . intro h i hi;have hil:=List.mem_range.1 hi;obtain⟨s,hs⟩:∃s,z.sets[i]? =some s:=⟨_,ai hil⟩
   obtain⟨p,hp⟩:∃p,z.sets[i-1]? =some p:=⟨_,ai (by omega)⟩
   cases hb:lU z i with
   | true=>rfl
   | false =>
    obtain⟨h3,k⟩:=(mG hs hp).1 hb;have hsm:=aq hs;rcases k with ⟨k1,k2⟩ | ⟨x,k1,k2,k3⟩
    . have:=(jb (fW ho.rising (show i-1<i by omega) hp hs)).2 k2;rcases h s hsm p (aq hp) h3 k2 with e | e <;> omega
    . have:=(jb (fW ho.rising (show i<i+1 by omega) hs k1)).2 k2.symm;rcases h s hsm x (aq k1) h3 k2 with e | e
      . omega
      . exact absurd e k3
theorem ll{α:Type}{l:List α}{p:Nat->Bool}{q:α->Bool}(h:∀i s,l[i]? =some s->p i=q s):(List.range l.length).all p=true ↔ ∀s∈l,q s=true:=by
 rw[ax];constructor
 . intro k s hs;obtain⟨i,hi⟩:=b5 hs;rw[<- h i s hi];exact k i (List.mem_range.2 (ar.1 hi).1)
 . intro k i hi;have hi:=List.mem_range.1 hi;rw[h i _ (ai hi)];exact k _ (List.getElem_mem hi)
theorem Ordered.bool{z:aQ}(h:Ordered z):ordered z=true:=by
 unfold ordered;have hall:(List.range z.sets.length).all (pL z)=true:=by
  rw[ax];intro i hi;have hi:=List.mem_range.1 hi;obtain⟨s,hs⟩:∃s,z.sets[i]? =some s:=⟨_,ai hi⟩
  obtain⟨p,hp⟩:∃p,z.sets[i-1]? =some p:=⟨_,ai (by omega)⟩
  have hsm:=aq hs;have hpm:=aq hp;rw[pc hs hp,k8,h.set s hsm,h.under s hsm,rj _ _ (h.name p hpm) (h.name s hsm)];by_cases h0:i=0
  . subst h0;rfl
  . have:=fW h.rising (show i-1<i by omega) hp hs;have e:cpl (p.set.name,p.set.type) (s.set.name,s.set.type)<0:=this;have e2:¬cpl (p.set.name,p.set.type) (s.set.name,s.set.type)>=0:=by omega
    simp[e2]
 have hf:¬((z.sets.length:Int)>20000):=by have:=h.few;omega
 rw[hall,h.apex,h.tame];simp[hf]
structure Val(z:aQ):Prop where
 ord:Ordered z
 start:cd z.sets ⟨z.apex,4⟩=true
 serv:cd z.sets ⟨z.apex,2⟩=true
 fit:∀s∈z.sets,fits s.set.type (s.set.name==z.apex)=true
 ali:∀s∈z.sets,∀x∈z.sets,s.set.type=3->x.set.name=s.set.name->x.set.type=3\/x.set.type=8
 cut:∀s∈z.sets,jW s (spec (bO z) s.set.name)=false
 sig:∀s∈z.sets,mr s (spec (bO z) s.set.name)=false
 form:∀s∈z.sets,fm s.sigs z.apex=true
theorem EA(z:aQ):(List.range z.sets.length).all (iV z)=true ↔ ∀s∈z.sets,fits s.set.type (s.set.name==z.apex)=true :=
 ll fun i s h=>by unfold iV;rw[h]
theorem BK(z:aQ):nf z=true ↔ ∀s∈z.sets,fm s.sigs z.apex=true :=
 ll fun i s h=>by unfold lh;rw[h]
theorem zd{z:aQ}(ho:Ordered z):lW z (cL z)=true ↔ ∀s∈z.sets,jW s (spec (bO z) s.set.name)=false:=by
 unfold lW;rw[ll (q:=fun s=> !jW s (spec (bO z) s.set.name)) fun i s h=>by unfold cutAt;rw[y3 h ho,h]];simp only[Bool.not_eq_true']
theorem zW{z:aQ}(ho:Ordered z):nk z (cL z)=true ↔ ∀s∈z.sets,mr s (spec (bO z) s.set.name)=false:=by
 unfold nk;rw[ll (q:=fun s=> !mr s (spec (bO z) s.set.name)) fun i s h=>by unfold oB;rw[y3 h ho,h]];simp only[Bool.not_eq_true']
theorem qT{z:aQ}:bE z=true ↔ Val z:=by
 constructor
 . intro h;have ho:=bz h;unfold bE ia at h;simp only[aP]at h;obtain⟨⟨_,⟨⟨a1,a2⟩,a3⟩⟩,⟨⟨b1,b2⟩,b3⟩,b4⟩:=h;exact⟨ho,a1,a2,(EA z).1 a3,(y6 ho).1 b1,(zd ho).1 b2,(zW ho).1 b3,(BK z).1 b4⟩
 . intro h;unfold bE ia;dsimp only;rw[h.ord.bool,h.start,h.serv,(EA z).2 h.fit,(y6 h.ord).2 h.ali,(zd h.ord).2 h.cut,(zW h.ord).2 h.sig,(BK z).2 h.form];rfl
theorem GB{z:aQ}(ho:Ordered z)(n:Bs):(spec (bO z) n=[]/\ ∀c∈cD z.apex z.sets,aG n c=false) \/
 (spec (bO z) n∈cD z.apex z.sets/\aG n (spec (bO z) n)=true/\ ∀c∈cD z.apex z.sets,aG n c=true->aG c (spec (bO z) n)=true):=by
 obtain⟨hA,ha,hg⟩:=kB ho;by_cases he:∃h∈bO z,aG n h=true
 . obtain⟨h,hm,hu⟩:=he;have e:=lP hA ha hm hu;rw[e];refine .inr ⟨oV hm,hu,fun c hc hn=>?_⟩;obtain⟨g,hgm,hgu⟩:=hg c hc;have e2:=lP hA ha hgm (nr hn hgu);rw[<- e,e2];exact hgu
 . have hno:∀h∈bO z,aG n h=false:=fun h hm=>by
    cases hu:aG n h with
    | false=>rfl
    | true=>exact(he ⟨h,hm,hu⟩).elim
   refine .inl ⟨pR hno,fun c hc=>?_⟩;cases hu:aG n c with
   | false=>rfl
   | true =>
    obtain⟨g,hgm,hgu⟩:=hg c hc;exact(he ⟨g,hgm,nr hu hgu⟩).elim
theorem Hw{z:aQ}(ho:Ordered z){c:Bs}(h:c∈cD z.apex z.sets):c ≠ []/\c ≠ z.apex/\aj c=true/\aG c z.apex=true/\cd z.sets ⟨c,2⟩=true:=by
 obtain⟨s,hs,h1,h2⟩:=(lH _ _ _).1 h;subst h2;unfold dK at h1;simp only[aP,beq_iff_eq,Bool.not_eq_true',beq_eq_false_iff_ne]at h1;exact⟨km (ho.name s hs),h1.2,ho.name s hs,Jc ho hs,mN.2 ⟨s,hs,by show(s.set.name,s.set.type)=_;rw[h1.1];rfl⟩⟩
theorem Li{s:Signed}(h:dZ s.set=true):bZ (qOf s)=true:=by
 have h1:=jh h;have h2:=zU h;unfold bZ qOf;simp only[h1,aE,aP,decide_eq_true_eq];exact⟨h2.1,h2.2⟩
theorem lr{z:aQ}(hv:bE z=true){s:Signed}(hs:s∈z.sets):L8 z (qOf s)=(s,true,0):=by
 have ho:=bz hv;have hh:cd z.sets (qOf s)=true:=mN.2 ⟨s,hs,rfl⟩;obtain⟨x,hx,hm,hp⟩:=BL ho (q:=qOf s) (ho.name s hs) hh;have e:=ho.rising.pw.uniq hm hs hp;subst e;unfold L8;rw[if_neg (by simp[Li (ho.set _ hs),hv]),if_neg (by simp[hh]),hx];rfl
theorem LR{z:aQ}(hv:bE z=true){c n:Bs}(hc:c∈cD z.apex z.sets)(hu:aG n c=true):spec (bO z) n=c:=by
 obtain⟨hA,ha,_⟩:=kB (bz hv);exact lP hA ha (Bu hv hc) hu
theorem oc{l:List Signed}{q:bg}(h:cd l q=true):∃(k:Nat) (s:Signed),atI l q=k/\l[k]? =some s/\s.place=q.place:=by
 unfold atI;cases hf:l.findIdx? (is q)with
 | none =>
  rw[List.findIdx?_eq_none_iff]at hf;unfold cd at h;rw[List.any_eq_true]at h;obtain⟨s,hs,e⟩:=h;rw[hf s hs]at e;cases e
 | some k =>
  obtain⟨h1,h2,_⟩:=List.findIdx?_eq_some_iff_getElem.1 hf;exact⟨k,l[k],rfl,ai h1,(k7 q _).1 h2⟩
theorem NK{l:List Signed}(hl:RP l){q:bg}{k:Nat}{s:Signed}(hk:l[k]? =some s)(hp:s.place=q.place):posOf l q=k:=by
 unfold posOf;have h1:l=l.take k++s::l.drop (k+1):=by
  obtain⟨hlt,e⟩:=ar.1 hk
  conv=>lhs;rw[<- List.take_append_drop k l,List.drop_eq_getElem_cons hlt,e]
 have hlt:k<l.length:=(ar.1 hk).1;have h2:∀x∈l.take k,decide (cpl x.place q.place<0)=true:=fun x hx=>by
  have hl' :=hl;rw[h1]at hl';have:=(List.pairwise_append.1 hl').2.2 x hx s (List.mem_cons_self ..);rw[<- hp];simpa using this
 conv=>lhs;rw[h1]
 rw[List.takeWhile_append_of_pos h2,List.takeWhile_cons,if_neg (by rw[hp,Bt];simp)];simp;omega
def bw(z:aQ)(n:Bs):Bs:=((cD z.apex z.sets).find? fun c=>aG n c).getD []
theorem Ke{z:aQ}(hv:bE z=true)(n:Bs):bw z n=spec (bO z) n:=by
 unfold bw;cases hf:(cD z.apex z.sets).find? fun c=>aG n c with
 | none =>
  rw[List.find?_eq_none]at hf;rcases GB (bz hv) n with ⟨e,_⟩ | ⟨e1,e2,_⟩
  . rw[e];rfl
  . exact absurd e2 (hf _ e1)
 | some c =>
  have h1:=List.find?_some hf;have h2:=List.mem_of_find?_eq_some hf;rw[LR hv h2 h1];rfl
theorem Ew{z:aQ}{n:Bs}(hv:bE z=true)(hn:aj n=true)(hu:aG n z.apex=true):dV z n=(bw z n, !(bw z n==[]),0):=by
 have ha:=(bz hv).apex;have hu' :(bx n z.apex).1=true:=by unfold bx;rw[if_pos ⟨hn,ha⟩];exact hu
 rw[Ke hv];unfold dV;rw[if_neg (by simp[hv,hn]),if_neg (by simp[hu'])];rcases Hv hv hn hu with ⟨e1,e2⟩ | ⟨c,e1,e2,_,e3⟩
 . rw[e1,e2];rfl
 . rw[e1,e2];have:(c==[])=false:=by simpa using e3
   rw[this];rfl
def ref(o:Bool)(s:Signed):Bool:=o||(s.set.type==2)
def mark(s:Signed)(o:Bool):Bs:=if ref o s=true then[]else s.set.name++[0]
end NP
namespace Go.Proofs.YtjapjahfllomkaaGreatDoor
open NQ Go NP Go.RowKit
theorem I4(q:bg):NQ.Fn cx 141 [.agg (cT q)] (.d (.bool (bZ q))) []:=by
 refine aO bf mixed Tryz.func141 (by kernel_rfl) rfl (ah rfl) ?_;conv=>whnf
 (refine⟨_,_,nw q.name,?_⟩;conv=>whnf)
 (refine ae (fun h=>?_) (fun h=>?_) <;> (rw[h];conv=>whnf))
 . have h1:=h
   (refine ae (fun h=>?_) (fun h=>?_) <;> (rw[h];conv=>whnf))
   . refine af rfl ?_;show AV.d (D.bool _)=_;simp only[bZ, *, if_true,if_false,ay,aJ,aI,aK,aM,aL,az,aC,aD,aE,aF,aB]
   . refine af rfl ?_;show AV.d (D.bool _)=_;simp only[bZ, *, if_true,if_false,ay,aJ,aI,aK,aM,aL,az,aC,aD,aE,aF,aB]
 . refine af rfl ?_;show AV.d (D.bool _)=_;simp only[bZ, *, if_true,if_false,ay,aJ,aI,aK,aM,aL,az,aC,aD,aE,aF,aB]
theorem zQ(z:aQ)(hn:z.sets.length<=100000):NQ.Fn cx 115 [.agg (bp z)] (.d (.bool (bE z))) []:=by
 have:=Js z hn
 rwa [LS]at this
theorem Kf(z:aQ)(n:Bs)(hn:z.sets.length<=100000)(hv:∀s∈z.sets,aj s.set.name=true)(hs:aj n=true):NQ.Fn cx 118 [.agg (bp z), .str n] (.d (.str (bw z n))) []:=by
 refine aO bf mixed Tryz.func118 (by kernel_rfl) rfl (ah rfl) ?_;conv=>whnf
 (refine⟨_,_,Ey z hn,?_⟩;conv=>whnf)
 obtain⟨l,hl0⟩:∃l,l=cD z.apex z.sets:=⟨_,rfl⟩
 have hln:l.length<=100000:=by rw[hl0];exact Nat.le_trans (lX _ _) hn
 have hvl:∀c∈l,aj c=true:=fun c hc=>by
  rw[hl0]at hc;obtain⟨s,hs,e⟩:=jX _ _ _ hc;rw[<- e];exact hv s hs
 unfold bw;rw[<- hl0];refine⟨Nat,fun k=>⟨[(1, .d (.str n)),(5, .d (.slice 1 (l.map aA))),(6, .d (.int .i64 k))],[]⟩,fun k=>k<=l.length/\(l.drop k).find? (fun c=>aG n c)=l.find? (fun c=>aG n c),fun k=>l.length-k,
  ⟨0,⟨by omega,rfl⟩,an.keep ⟨⟨rfl,rfl⟩,⟨rfl,rfl⟩,⟨rfl,rfl⟩,trivial⟩ trivial⟩,fun k ⟨hk,hf⟩=>?_⟩
 conv=>whnf
 refine ae (fun h1=>?_) (fun h1=>?_) <;> (rw[h1];conv=>whnf)
 . have hlt:k<l.length:=by simp at h1;omega
   obtain⟨c,hc⟩:∃s,l[k]? =some s:=⟨_,ai hlt⟩
   rw[drop_cons hc,List.find?_cons]at hf;refine⟨aH k,aA c,aU hc,?_⟩
   conv=>whnf
   (refine⟨_,_,lT n c (bI hs) (bI (hvl c (aq hc))),?_⟩;conv=>whnf)
   (refine ae (fun h=>?_) (fun h=>?_) <;> (rw[h];conv=>whnf))
   . refine⟨aH k,aA c,aU hc,?_⟩
     conv=>whnf
     refine af rfl ?_;rw[h]at hf;rw[<- hf];rfl
   . rw[h]at hf;exact⟨k+1,⟨hlt,hf⟩,by(show l.length-(k+1)<l.length-k;omega),an.keep ⟨⟨rfl,rfl⟩,⟨rfl,rfl⟩,⟨au (by omega),rfl⟩,trivial⟩ trivial⟩
 . obtain rfl:k=l.length:=by simp at h1;omega
   refine af rfl ?_;rw[List.drop_length]at hf;rw[<- hf];rfl
end Go.Proofs.YtjapjahfllomkaaGreatDoor
namespace NP
open NQ Go
structure View where
 apex:Bs
 sets:List Signed
 q:bg
 cut:Bs
 behind:Bool
 cN:Bs
def jy:Nat->List Signed->List (List D×D)
 | _,[]=>[]
 | i,s::t=>(cT (qOf s), .int .i64 i)::jy (i+1) t
def c7(v:View):List D:=[.str v.apex, .slice 5 (v.sets.map aw), .kmap (jy 0 v.sets), .str v.q.name, .int .i64 v.q.type, .str v.cut, .bool v.behind, .str v.cN]
theorem MW(q:bg)(s:Signed):cW [.str, .int .i64] ((cT q).map .d) ((cT (qOf s)).map .d)=some (is q s):=by
 show some ((q.name==s.set.name)&&((q.type==s.set.type)&&true))=_
 rw[aD];unfold is
 congr 1
 rw[Bool.beq_comm (a:=q.name),Bool.beq_comm (a:=q.type)]
theorem yD(q:bg):∀(l:List Signed) (i:Nat),ma [.str, .int .i64] (cT q) (jy i l)=some ((l.findIdx? (is q)).map fun k=>D.int .i64 ((i+k:Nat):Int))
 | [],i=>rfl
 | s::t,i=>by
  rw[jy,ma,MW];cases h:is q s with
  | true=>simp[List.findIdx?_cons,h]
  | false =>
   simp only;rw[yD q t (i+1),List.findIdx?_cons,h];simp only[ay,if_false];cases t.findIdx? (is q) <;> simp;omega
def n5(l:List Signed)(n:Bs):Nat:=(l.takeWhile fun s=>decide (aR s.set.name n<0)).length
theorem Nl(l:List Signed)(n:Bs):n5 l n<=l.length:=(List.takeWhile_sublist _).length_le
theorem rO{n:Bs}:∀{l:List Signed},l.Pairwise (fun a b=>aR a.set.name b.set.name<=0)-> ∀{i:Nat} {s:Signed},l[i]? =some s->(n5 l n<=i ↔ 0<=aR s.set.name n)
 | [],_,i,s,h=>by cases h
 | x::l,hp,i,s,h=>by
  obtain⟨h1,h2⟩:=List.pairwise_cons.1 hp;unfold n5;rw[List.takeWhile_cons];by_cases hx:aR x.set.name n<0
  . rw[if_pos (by simpa using hx),List.length_cons];cases i with
    | zero=>cases h;exact⟨fun h=>by omega,fun h=>by omega⟩
    | succ i =>
     have:=rO (n:=n) h2 (i:=i) (s:=s) (by simpa using h);unfold n5 at this;omega
  . rw[if_neg (by simpa using hx),List.length_nil];refine⟨fun _=>?_,fun _=>Nat.zero_le _⟩;cases i with
    | zero=>cases h;omega
    | succ i =>
     have hm:s∈l:=aq (i:=i) (by simpa using h);have h3:=h1 s hm;by_cases h4:aR s.set.name n<0
     . exact absurd (bc.OA h3 h4) hx
     . omega
def exB(l:List Signed)(n:Bs):Bool:=match l[n5 l n]? with | some s=>(bx s.set.name n).1 | none=>false
end NP
namespace Go.Proofs.YtjapjahfllomkaaGreatDoor
open NQ Go NP Go.RowKit
theorem vn(a b:Bs):NQ.Fn cx 299 [.str a, .str b] (.d (.int .i64 (bP a b).1)) []:=by
 refine aO bf mixed Tryz.func299 (by kernel_rfl) rfl (ah rfl) ?_;conv=>whnf
 (refine⟨_,_,qW a b,?_⟩;conv=>whnf)
 exact af rfl rfl
theorem zx(a b:Bs):NQ.Fn cx 257 [.str a, .str b] (.d (.bool (bx a b).1)) []:=by
 refine aO bf mixed Tryz.func257 (by kernel_rfl) rfl (ah rfl) ?_;conv=>whnf
 (refine⟨_,_,oO a b,?_⟩;conv=>whnf)
 exact af rfl rfl
theorem Gw(n c:Nat)(x y:D)(hn:n<=100000)(hc:c<=n)(hf:∀i:Nat,i<n->NQ.Fn cx 298 [.int .i64 i,x,y] (.d (.bool (decide (c<=i)))) []) :
 NQ.Fn cx 297 [.int .i64 n, .fn 298 [] [x,y]] (.d (.int .i64 c)) []:=by
 refine aO bf mixed Tryz.func297 (by kernel_rfl) rfl (ah rfl) ?_;conv=>whnf
 refine⟨Nat×Nat,fun z=>⟨[(1, .d (.fn 298 [] [x,y])),(5, .d (.int .i64 z.1)),(6, .d (.int .i64 z.2))],[]⟩,fun z=>z.1<=c/\c<=z.2/\z.2<=n,fun z=>z.2-z.1,
  ⟨(0,n),⟨Nat.zero_le _,hc,Nat.le_refl _⟩,an.keep ⟨⟨rfl,rfl⟩,⟨rfl,rfl⟩,⟨rfl,rfl⟩,trivial⟩ trivial⟩,?_⟩
 rintro⟨i,j⟩ ⟨h1,h2,h3⟩;simp only at h1 h2 h3
 conv=>whnf
 refine ae (fun hlt=>?_) (fun hlt=>?_) <;> (rw[hlt];conv=>whnf)
 . have hij:i<j:=by simp at hlt;omega
   rw[Cd (by omega)]
   (refine⟨_,_,hf ((i+j) / 2) (by omega),?_⟩;conv=>whnf)
   refine ae (fun h=>?_) (fun h=>?_) <;> (rw[h];conv=>whnf)
   . have hlt:(i+j) / 2<c:=by simp at h;omega
     exact⟨((i+j) / 2+1,j),⟨hlt,h2,h3⟩,by(show j-((i+j) / 2+1)<j-i;omega),an.keep ⟨⟨rfl,rfl⟩,⟨au (by omega),rfl⟩,⟨rfl,rfl⟩,trivial⟩ trivial⟩
   . have hle:c<=(i+j) / 2:=by simp at h;omega
     exact⟨(i,(i+j) / 2),⟨h1,hle,by(show(i+j) / 2<=n;omega)⟩,by(show(i+j) / 2-i<j-i;omega),an.keep ⟨⟨rfl,rfl⟩,⟨rfl,rfl⟩,⟨rfl,rfl⟩,trivial⟩ trivial⟩
 . obtain rfl:i=c:=by simp at hlt;omega
   exact af rfl rfl
theorem Gx(n c:Nat)(x y:D)(hn:n<=100000)(hc:c<=n)(hf:∀i:Nat,i<n->NQ.Fn cx 314 [.int .i64 i,x,y] (.d (.bool (decide (c<=i)))) []) :
 NQ.Fn cx 297 [.int .i64 n, .fn 314 [] [x,y]] (.d (.int .i64 c)) []:=by
 refine aO bf mixed Tryz.func297 (by kernel_rfl) rfl (ah rfl) ?_;conv=>whnf
 refine⟨Nat×Nat,fun z=>⟨[(1, .d (.fn 314 [] [x,y])),(5, .d (.int .i64 z.1)),(6, .d (.int .i64 z.2))],[]⟩,fun z=>z.1<=c/\c<=z.2/\z.2<=n,fun z=>z.2-z.1,
  ⟨(0,n),⟨Nat.zero_le _,hc,Nat.le_refl _⟩,an.keep ⟨⟨rfl,rfl⟩,⟨rfl,rfl⟩,⟨rfl,rfl⟩,trivial⟩ trivial⟩,?_⟩
 rintro⟨i,j⟩ ⟨h1,h2,h3⟩;simp only at h1 h2 h3
 conv=>whnf
 refine ae (fun hlt=>?_) (fun hlt=>?_) <;> (rw[hlt];conv=>whnf)
 . have hij:i<j:=by simp at hlt;omega
   rw[Cd (by omega)]
   (refine⟨_,_,hf ((i+j) / 2) (by omega),?_⟩;conv=>whnf)
   refine ae (fun h=>?_) (fun h=>?_) <;> (rw[h];conv=>whnf)
   . have hlt:(i+j) / 2<c:=by simp at h;omega
     exact⟨((i+j) / 2+1,j),⟨hlt,h2,h3⟩,by(show j-((i+j) / 2+1)<j-i;omega),an.keep ⟨⟨rfl,rfl⟩,⟨au (by omega),rfl⟩,⟨rfl,rfl⟩,trivial⟩ trivial⟩
   . have hle:c<=(i+j) / 2:=by simp at h;omega
     exact⟨(i,(i+j) / 2),⟨h1,hle,by(show(i+j) / 2<=n;omega)⟩,by(show(i+j) / 2-i<j-i;omega),an.keep ⟨⟨rfl,rfl⟩,⟨rfl,rfl⟩,⟨rfl,rfl⟩,trivial⟩ trivial⟩
 . obtain rfl:i=c:=by simp at hlt;omega
   exact af rfl rfl
theorem ja(v:View)(n:Bs)(t:Int):NQ.Fn cx 256 [.ptr (c7 v), .str n, .int .i64 t] (.d (.int .i64 (atI v.sets ⟨n,t⟩))) []:=by
 refine aO bf mixed Tryz.func256 (by kernel_rfl) rfl (ah rfl) ?_;conv=>whnf
 have hk:=yD ⟨n,t⟩ v.sets 0;unfold atI;cases hf:v.sets.findIdx? (is ⟨n,t⟩)with
 | some k =>
  rw[hf]at hk;refine⟨some (.int .i64 k),by rw[Option.map_some,Nat.zero_add]at hk;exact hk,?_⟩
  conv=>whnf
  exact af rfl rfl
 | none =>
  rw[hf]at hk;refine⟨none,hk,?_⟩
  conv=>whnf
  exact af rfl rfl
theorem sd(v:View):NQ.Fn cx 260 [.ptr (c7 v)] (.d (.int .i64 (atI v.sets ⟨v.apex,4⟩))) []:=by
 refine aO bf mixed Tryz.func260 (by kernel_rfl) rfl (ah rfl) ?_;conv=>whnf
 (refine⟨_,_,ja v v.apex 4,?_⟩;conv=>whnf)
 exact af rfl rfl
theorem FI(v:View)(n:Bs)(i:Nat)(s:Signed)(hs:v.sets[i]? =some s):NQ.Fn cx 298 [.int .i64 i, .ptr [.ptr (c7 v)], .ptr [.str n]] (.d (.bool (decide ((bP s.set.name n).1>=0)))) []:=by
 refine aO bf mixed Tryz.func298 (by kernel_rfl) rfl (ah rfl) ?_;conv=>whnf
 (refine⟨(by kernel_rfl:bH _ _=true),?_⟩;conv=>whnf)
 refine⟨aH i,aw s,aU hs,?_⟩
 conv=>whnf
 (refine⟨_,_,vn s.set.name n,?_⟩;conv=>whnf)
 exact af rfl rfl
theorem sU(v:View)(n:Bs)(hn:v.sets.length<=100000)(hr:dA v.sets)(hv:∀s∈v.sets,aj s.set.name=true)(hvn:aj n=true):NQ.Fn cx 259 [.ptr (c7 v), .str n] (.d (.bool (exB v.sets n))) []:=by
 refine aO bf mixed Tryz.func259 (by kernel_rfl) rfl (ah rfl) ?_;conv=>whnf
 have hp:=lO hr;have hle:=Nl v.sets n;have hS:=Gw v.sets.length (n5 v.sets n) (.ptr [.ptr (c7 v)]) (.ptr [.str n]) hn hle (fun i hi=>by
  obtain⟨s,hs⟩:∃s,v.sets[i]? =some s:=⟨_,ai hi⟩
  have h:=FI v n i s hs;have e:decide ((bP s.set.name n).1>=0)=decide (n5 v.sets n<=i):=by
   have hc:(bP s.set.name n).1=aR s.set.name n:=by unfold bP;rw[if_pos ⟨hv s (aq hs),hvn⟩]
   rw[hc,decide_eq_decide];exact(rO hp hs).symm
  rwa [e]at h)
 have hl:((v.sets.map aw).length:Int)=(v.sets.length:Int):=by rw[ao]
 rw[hl];refine⟨_,hS,rfl,?_⟩
 conv=>whnf
 (refine⟨(by kernel_rfl:bH _ _=true),?_⟩;conv=>whnf)
 rw[hl];unfold exB;cases hg:v.sets[n5 v.sets n]? with
 | none =>
  have:decide (((n5 v.sets n:Nat):Int)<(v.sets.length:Int))=false:=by
   rw[List.getElem?_eq_none_iff]at hg;rw[decide_eq_false];omega
  rw[this]
  conv=>whnf
  exact af rfl rfl
 | some s =>
  have:decide (((n5 v.sets n:Nat):Int)<(v.sets.length:Int))=true:=by
   have:=(ar.1 hg).1;rw[decide_eq_true];omega
  rw[this]
  conv=>whnf
  refine⟨aH _,aw s,aU hg,?_⟩
  conv=>whnf
  (refine⟨_,_,zx s.set.name n,?_⟩;conv=>whnf)
  exact af rfl rfl
theorem KQ(l:List Int)(x:Int)(hl:l.length<=100000):NQ.Fn cx 312 [.slice 1 (l.map dq), .int .i64 x] (.d (.int .i64 (match l.findIdx? (· ==x)with | some k=>(k:Int) | none=> -1))) []:=by
 refine aO bf mixed Tryz.func312 (by kernel_rfl) rfl (ah rfl) ?_;conv=>whnf
 refine⟨Nat,fun k=>⟨[(0, .d (.slice 1 (l.map dq))),(1, .d (.int .i64 x)),(7, .d (.int .i64 ((l.map dq).length:Int))),(8, .d (.int .i64 k))],[]⟩,fun k=>k<=l.length/\ ∀j y,j<k->l[j]? =some y->(y==x)=false,fun k=>l.length-k,
  ⟨0,⟨by omega,fun j y h=>by omega⟩,an.keep ⟨⟨rfl,rfl⟩,⟨rfl,rfl⟩,⟨rfl,rfl⟩,⟨rfl,rfl⟩,trivial⟩ trivial⟩,fun k ⟨hk,hall⟩=>?_⟩
 conv=>whnf
 refine ae (fun h1=>?_) (fun h1=>?_) <;> (rw[h1];conv=>whnf)
 . have hlt:k<l.length:=by simp at h1;omega
   obtain⟨y,hy⟩:∃s,l[k]? =some s:=⟨_,ai hlt⟩
   refine⟨aH k,dq y,aU hy,?_⟩
   conv=>whnf
   (refine ae (fun h=>?_) (fun h=>?_) <;> (rw[h];conv=>whnf))
   . refine af rfl ?_;have:l.findIdx? (· ==x)=some k:=by
      rw[List.findIdx?_eq_some_iff_getElem];refine⟨hlt,?_,fun j hj=>?_⟩
      . obtain⟨_,e⟩:=ar.1 hy;rw[e];simp at h ⊢;exact h.symm
      . have:=hall j l[j] hj (ai (by omega));simpa using this
     rw[this];rfl
   . refine⟨k+1,⟨hlt,fun j z hj hz=>?_⟩,by(show l.length-(k+1)<l.length-k;omega),an.keep ⟨⟨rfl,rfl⟩,⟨rfl,rfl⟩,⟨rfl,rfl⟩,⟨au (by omega),rfl⟩,trivial⟩ trivial⟩;rcases Nat.lt_or_eq_of_le (Nat.le_of_lt_succ hj)with h2 | rfl
     . exact hall j z h2 hz
     . rw[hy]at hz;cases hz;simp at h ⊢;exact fun e=>h e.symm
 . obtain rfl:k=l.length:=by simp at h1;omega
   refine af rfl ?_;have:l.findIdx? (· ==x)=none:=by
    rw[List.findIdx?_eq_none_iff];intro y hy;obtain⟨j,hj⟩:=b5 hy;exact hall j y (ar.1 hj).1 hj
   rw[this];rfl
theorem Ds(l:List Int)(x:Int)(hl:l.length<=100000):NQ.Fn cx 296 [.slice 1 (l.map dq), .int .i64 x] (.d (.bool (l.contains x))) []:=by
 refine aO bf mixed Tryz.func296 (by kernel_rfl) rfl (ah rfl) ?_;conv=>whnf
 (refine⟨_,_,KQ l x hl,?_⟩;conv=>whnf)
 refine af rfl ?_;show AV.d (D.bool (decide ((match l.findIdx? (· ==x)with | some k=>(k:Int) | none=> -1)>=0)))=_
 congr 2
 cases h:l.findIdx? (· ==x)with
 | some k =>
  obtain⟨h1,h2,_⟩:=List.findIdx?_eq_some_iff_getElem.1 h;have:l.contains x=true:=by
   rw[c8];have e:l[k]=x:=by simpa using h2
   exact e ▸ List.getElem_mem h1
  rw[this,decide_eq_true];exact aH k
 | none =>
  have:l.contains x=false:=by
   rw[<- Bool.not_eq_true,c8];intro hm;have:=List.findIdx?_eq_none_iff.1 h x hm;simp at this
  rw[this];rfl
end Go.Proofs.YtjapjahfllomkaaGreatDoor
namespace NP
open NQ Go
structure Ans where
 kind:Int
 sets:List Signed
 cut:Bs
 deriving DecidableEq
def dw(a:Ans):List D:=[.int .i64 a.kind, .slice 5 (a.sets.map aw), .str a.cut]
def cj(l:List Signed):List Int->List Int->List Signed
 | _,[]=>[]
 | seen,p::t=>if (decide (p<0)||seen.contains p)=true then cj l (seen++[p]) t else(l[p.toNat]?).getD ye::cj l (seen++[p]) t
end NP
namespace Go.Proofs.YtjapjahfllomkaaGreatDoor
open NQ Go NP Go.RowKit
theorem Gu(l:List Int)(k:Nat):((l.map dq).drop ((0:Nat):Int).toNat).take (((k:Nat):Int).toNat-((0:Nat):Int).toNat)=(l.take k).map dq:=by
 simp[List.map_take]
theorem hX(v:View)(kind:Int)(ps:List Int)(hn:ps.length<=1000)(hp:∀p∈ps,p<v.sets.length)(hs:∀s∈v.sets,Small s) :
 FnB cx 258 (c7 v) [.int .i64 kind, .slice 1 (ps.map dq)] (.agg ((dw ⟨kind,cj v.sets [] ps,[]⟩).map .d)) (c7 v):=by
 refine gq (fun _=>[]) bf mixed Tryz.func258 (by kernel_rfl) rfl (ah rfl) (ah rfl) ?_;conv=>whnf
 refine ⟨Nat × List Signed, fun x => ⟨[(0, .ptr 100000 0), (2, .d (.slice 1 (ps.map dq))), (6, .ptr 6 0), (7, .ptr 7 0), (13, .d (.slice 1 (ps.map dq))), (14, .d (.int .i64 ((ps.map dq).length : Int))), (15, .d (.int .i64 x.1))],
     [(100000, .box ((c7 v).map .d)),(6, .box [.d (.int .i64 0), .nil 5, .d (.str [])]),(7, .box [.d (.int .i64 kind), .own 200, .d (.str [])]),(200, .row 74 5 (x.2.map aw))]⟩,
  fun x=>x.1<=ps.length/\x.2.length<=x.1/\x.2++cj v.sets (ps.take x.1) (ps.drop x.1)=cj v.sets [] ps,fun x=>ps.length-x.1,
  ⟨(0,[]),⟨by omega,by simp,by simp⟩,(an.rP 7 1 200 5 [.d (.int .i64 kind), .nil 5, .d (.str [])] 74 5 rfl rfl rfl (by decide)).trans (an.keep ⟨⟨rfl,rfl⟩,⟨rfl,rfl⟩,⟨rfl,rfl⟩,⟨rfl,rfl⟩,⟨rfl,rfl⟩,⟨rfl,rfl⟩,⟨rfl,rfl⟩,trivial⟩ ⟨⟨rfl,rfl⟩,⟨rfl,rfl⟩,⟨rfl,rfl⟩,⟨rfl,rfl⟩,trivial⟩)⟩,?_⟩
 rintro⟨k,acc⟩ ⟨hk,hl,hc⟩;simp only at hk hl hc
 conv=>whnf
 refine ae (fun h1=>?_) (fun h1=>?_) <;> (rw[h1];conv=>whnf)
 . have hlt:k<ps.length:=by simp at h1;omega
   obtain⟨p,hpk⟩:∃p,ps[k]? =some p:=⟨_,ai hlt⟩
   rw[drop_cons hpk,cj, <- bt hpk]at hc;refine⟨aH k,dq p,aU hpk,?_⟩
   conv=>whnf
   have skip:(decide (p<0)||(ps.take k).contains p)=true-> ∀st,an cx st ⟨[(0, .ptr 100000 0),(2, .d (.slice 1 (ps.map dq))),(6, .ptr 6 0),(7, .ptr 7 0),(13, .d (.slice 1 (ps.map dq))),(14, .d (.int .i64 ((ps.map dq).length:Int))),(15, .d (.int .i64 ((k+1:Nat):Int)))],
    [(100000, .box ((c7 v).map .d)),(6, .box [.d (.int .i64 0), .nil 5, .d (.str [])]),(7, .box [.d (.int .i64 kind), .own 200, .d (.str [])]),(200, .row 74 5 (acc.map aw))]⟩ ->
    ∃y:Nat×List Signed,(y.1<=ps.length/\y.2.length<=y.1/\y.2++cj v.sets (ps.take y.1) (ps.drop y.1)=cj v.sets [] ps)/\ps.length-y.1<ps.length-k/\an cx st ⟨[(0, .ptr 100000 0),(2, .d (.slice 1 (ps.map dq))),(6, .ptr 6 0),(7, .ptr 7 0),(13, .d (.slice 1 (ps.map dq))),(14, .d (.int .i64 ((ps.map dq).length:Int))),(15, .d (.int .i64 y.1))],
    [(100000, .box ((c7 v).map .d)),(6, .box [.d (.int .i64 0), .nil 5, .d (.str [])]),(7, .box [.d (.int .i64 kind), .own 200, .d (.str [])]),(200, .row 74 5 (y.2.map aw))]⟩:=fun hb st hw=>by
    rw[if_pos hb]at hc;exact⟨(k+1,acc),⟨hlt,by(show acc.length<=k+1;omega),hc⟩,by(show ps.length-(k+1)<ps.length-k;omega),hw⟩
   (refine ae (fun h=>?_) (fun h=>?_) <;> (rw[h];conv=>whnf))
   . exact skip (by rw[h];rfl) _ (an.keep ⟨⟨rfl,rfl⟩,⟨rfl,rfl⟩,⟨rfl,rfl⟩,⟨rfl,rfl⟩,⟨rfl,rfl⟩,⟨rfl,rfl⟩,⟨au (by omega),rfl⟩,trivial⟩ ⟨⟨rfl,rfl⟩,⟨rfl,rfl⟩,⟨rfl,rfl⟩,⟨rfl,rfl⟩,trivial⟩)
   have hp0:=h;refine⟨by omega,by omega,by(rw[ao];omega),?_⟩
   conv=>whnf
   rw[Gu]
   (refine⟨_,_,Ds (ps.take k) p (by(rw[List.length_take];omega)),?_⟩;conv=>whnf)
   (refine ae (fun h=>?_) (fun h=>?_) <;> (rw[h];conv=>whnf))
   . exact skip (by rw[h,aL]) _ (an.keep ⟨⟨rfl,rfl⟩,⟨rfl,rfl⟩,⟨rfl,rfl⟩,⟨rfl,rfl⟩,⟨rfl,rfl⟩,⟨rfl,rfl⟩,⟨au (by omega),rfl⟩,trivial⟩ ⟨⟨rfl,rfl⟩,⟨rfl,rfl⟩,⟨rfl,rfl⟩,⟨rfl,rfl⟩,trivial⟩)
   have hge:0<=p:=by simp at hp0;omega
   have hplt:=hp p (aq hpk);obtain⟨s,hsp⟩:∃s,v.sets[p.toNat]? =some s:=⟨_,ai (by omega)⟩
   have hsm:=hs s (aq hsp);rw[if_neg (by rw[hp0,h];simp),hsp]at hc;refine⟨hge,aw s,by(rw[aT,hsp];rfl),?_⟩
   conv=>whnf
   (refine⟨_,_,Bf _ (by simpa using hsm.1),?_⟩;conv=>whnf)
   (refine⟨_,_,Bg _ (by simpa using hsm.2),?_⟩;conv=>whnf)
   refine⟨by(show(acc.map aw).length+1<=_;rw[ao];omega),by(show((acc.map aw).length+1)*80<=_;rw[ao];omega),?_⟩
   conv=>whnf
   refine⟨(k+1,acc++[s]),⟨hlt,by(simp;omega),by(rw[<- hc];simp)⟩,by(show ps.length-(k+1)<ps.length-k;omega),an.keep ⟨⟨rfl,rfl⟩,⟨rfl,rfl⟩,⟨rfl,rfl⟩,⟨rfl,rfl⟩,⟨rfl,rfl⟩,⟨rfl,rfl⟩,⟨au (by omega),rfl⟩,trivial⟩ ⟨⟨rfl,rfl⟩,⟨rfl,rfl⟩,⟨rfl,rfl⟩,⟨by(show some (Blk.row _ _ (_++_))=some (Blk.row _ _ _);rw[List.map_append];rfl),rfl⟩,trivial⟩⟩
 . obtain rfl:k=ps.length:=by simp at h1;omega
   rw[List.drop_length,cj,List.append_nil]at hc;refine⟨[200],_,_,rfl,?_,rfl,rfl⟩;rw[<- hc];rfl
end Go.Proofs.YtjapjahfllomkaaGreatDoor
namespace NP
open NQ Go
end NP
namespace Go.Proofs.YtjapjahfllomkaaGreatDoor
open NQ Go NP Go.RowKit
theorem vF(z:aQ)(hv:bE z=true):NQ.Fn cx 65 [.agg (bp z)] (.d (.int .i64 (jf z))) []:=by
 have ho:=bz hv;have hfew:=ho.few;refine aO bf mixed Tryz.func65 (by kernel_rfl) rfl (ah rfl) ?_;conv=>whnf
 obtain⟨k,s,hk,hs,hp⟩:=oc (qT.1 hv).start;have fA:=AF z ⟨z.apex,4⟩ (by omega);rw[hk]at fA;obtain⟨d,hd⟩:=zS (ho.set s (aq hs));have e:jf z=d.n:=by
  unfold jf;rw[NK ho.rising.pw hs hp,hs];simp only[hd]
 (refine⟨(by kernel_rfl:bH _ _=true),?_⟩;conv=>whnf)
 (refine⟨_,_,fA,?_⟩;conv=>whnf)
 refine⟨aH k,aw s,aU hs,?_⟩
 conv=>whnf
 refine⟨by decide,cz d,by(show(s.set.data.map cz)[(0:Int).toNat]? =_;simp[hd]),?_⟩
 conv=>whnf
 exact af rfl (by rw[e];rfl)
end Go.Proofs.YtjapjahfllomkaaGreatDoor
