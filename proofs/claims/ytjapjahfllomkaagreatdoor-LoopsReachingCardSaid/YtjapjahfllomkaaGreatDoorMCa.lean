/-
  Texts of the proof, merged in build order.
-/
import Derived.Test.YtjapjahfllomkaaGreatDoorAbM
import Derived.Test.YtjapjahfllomkaaGreatDoorMVa
import Derived.Test.YtjapjahfllomkaaGreatDoorTyM
import Derived.WalkKit
import Derived.Deep.LoopGhost
import Derived.Deep.RegionLaw
import Derived.Lib.Walk
import Derived.Lib.SliceRun
import Derived.Lib.SlicesDelete
import Derived.Shelf.RegionOpenPlain
import Derived.Lib.Hide
import Derived.Test.YtjapjahfllomkaaGreatDoorMQt
import Derived.Laws.IdiomCopy
import Derived.Laws.CopyRow
import Derived.Lib.AppendZerosOnto
import Derived.Laws.NewBlocks
import Derived.Shelf.Spec.SlicesInsert
set_option linter.all false
set_option maxRecDepth 100000
namespace NP
open NQ Go
def yf:Signed:=⟨⟨[],0,0,[]⟩,[]⟩
def Small(s:Signed):Prop:=s.set.data.length<=100000/\s.sigs.length<=100000
def Me(z:aS)(q:bg):Signed×Bool×Int :=
 if (!b9 q|| !bE z)=true then(yf,false,1)else if (!cj z.sets q)=true then(yf,false,0)else((z.sets[posOf z.sets q]?).getD yf,true,0)
theorem tu{l:List Sig}{a:Bs}(h:fk l a=true):l.length<=6:=by
 simp[fk]at h;omega
theorem xW{s:gi}(h:ed s=true):s.data.length<=8:=by
 unfold ed at h;simp only[aR,Bool.not_eq_true',Bool.or_eq_false_iff,Bool.not_eq_false']at h;have:=h.1.1.2;simp[within]at this;omega
theorem qx{z:aS}(h:bE z=true):∀s∈z.sets,Small s:=fun s hs=>by
 have ho:=bu h;refine⟨by have:=xW (ho.set s hs);omega,?_⟩;simp only[bE,aR]at h;have hf:=h.2.2;simp only[np,aA]at hf;obtain⟨i,hi,rfl⟩:=List.getElem_of_mem hs;have:=hf i (List.mem_range.2 hi);simp only[lB,ah hi]at this;have:=tu this;omega
end NP
namespace Go.Proofs.YtjapjahfllomkaaGreatDoor
open NQ Go NP Go.RowKit
theorem Bf(rows:List (List D))(hl:rows.length<=100000):NQ.Fn cx 165 [.slice 3 rows] (.d (.slice 3 rows)) []:=by
 refine aP bf mixed Tryz.func165 (by kernel_rfl) rfl (ai rfl) ?_;conv=>whnf
 refine⟨fun h=>?_,?_⟩
 . refine af rfl ?_;rw[List.isEmpty_iff.1 h];rfl
 . conv=>whnf
   refine⟨by(show 0+rows.length<=_;omega),by(show(0+rows.length)*32<=_;omega),?_⟩
   conv=>whnf
   exact af rfl rfl
theorem Bg(rows:List (List D))(hl:rows.length<=100000):NQ.Fn cx 166 [.slice 6 rows] (.d (.slice 6 rows)) []:=by
 refine aP bf mixed Tryz.func166 (by kernel_rfl) rfl (ai rfl) ?_;conv=>whnf
 refine⟨fun h=>?_,?_⟩
 . refine af rfl ?_;rw[List.isEmpty_iff.1 h];rfl
 . conv=>whnf
   refine⟨by(show 0+rows.length<=_;omega),by(show(0+rows.length)*56<=_;omega),?_⟩
   conv=>whnf
   exact af rfl rfl
end Go.Proofs.YtjapjahfllomkaaGreatDoor
namespace NP
open NQ Go
def n9:aS:=⟨[],[]⟩
def qOf(s:Signed):bg:=⟨s.set.name,s.set.type⟩
def OG(l:List Signed)(i:Nat)(s:Signed):List Signed:=l.take i++[s]++l.drop i
def Lo(l:List Signed)(s:Signed):List Signed:=if cj l (qOf s)=true then l.set (posOf l (qOf s)) s else OG l (posOf l (qOf s)) s
def rV(z:aS)(s:Signed):aS:=⟨z.apex,Lo z.sets s⟩
def Lp(z:aS)(s:Signed):aS×Int :=
 if (!ed s.set|| !bE z)=true then(n9,1)
 else if (!fk s.sigs z.apex)=true then(n9,30)
 else if (!(bJ s.set.name z.apex).1)=true then(n9,20)
 else if (!fits s.set.type (s.set.name==z.apex))=true then(n9,22)
 else if (!cj z.sets (qOf s)&&decide ((z.sets.length:Int)>=20000))=true then(n9,2)
 else if (!aliases (rV z s))=true then(n9,21)
 else if (!mf (rV z s) (cL (rV z s)))=true then(n9,20)
 else if (!nw (rV z s) (cL (rV z s)))=true then(n9,30)
 else(rV z s,0)
end NP
namespace Go.Proofs.YtjapjahfllomkaaGreatDoor
open NQ Go NP Go.RowKit
end Go.Proofs.YtjapjahfllomkaaGreatDoor
namespace NP
open NQ Go
theorem yE{s:Bs}(h:an s=true):(bd s).length<=8:=by
 have:=nZ h;simp[okL]at this;exact this.1
theorem kz{s:Bs}(h:an s=true):s ≠ []:=by rintro rfl;revert h;decide
theorem y5{z:aS}{i:Nat}{s:Signed}(h:z.sets[i]? =some s)(ho:Ordered z):(cL z)[i]? =some (spec (bO z) s.set.name):=by
 rw[<- sK ho,sJ ho,aV,h];rfl
theorem Km{z:aS}(hv:bE z=true){s:Signed}(hs:s∈z.sets):j8 s (spec (bO z) s.set.name)=false:=by
 have ho:=bu hv;obtain⟨i,hi⟩:=cd hs;simp only[bE,aR]at hv;have hc:=hv.2.1.1.2;simp only[mf,aA]at hc;have:=hc i (List.mem_range.2 (av.1 hi).1);simp only[cutAt,hi,y5 hi ho]at this;simpa using this
theorem lV(apex c:Bs):∀(l:List Signed),c∈cG apex l ↔ ∃s∈l,dJ apex s=true/\s.set.name=c
 | []=>by simp[cG]
 | s::t=>by
  have ih:=lV apex c t;unfold cG;split
  . rename_i h;rw[List.mem_cons,ih];constructor
    . rintro(rfl | ⟨x,hx,k⟩)
      . exact⟨s,List.mem_cons_self .., h,rfl⟩
      . exact⟨x,aW _ hx,k⟩
    . rintro⟨x,hx,k1,k2⟩;rcases List.mem_cons.1 hx with rfl | hx
      . exact .inl k2.symm
      . exact .inr ⟨x,hx,k1,k2⟩
  . rename_i h;rw[ih];constructor
    . rintro⟨x,hx,k⟩;exact⟨x,aW _ hx,k⟩
    . rintro⟨x,hx,k1,k2⟩;rcases List.mem_cons.1 hx with rfl | hx
      . exact absurd k1 h
      . exact⟨x,hx,k1,k2⟩
theorem Jy{s:Bs}(h:an s=true):(s==[])=false:=by have:=kz h;simpa using this
theorem Br{z:aS}(hv:bE z=true){c:Bs}(hc:c∈cG z.apex z.sets):c∈bO z:=by
 have ho:=bu hv;obtain⟨hA,ha,hcov⟩:=kJ ho;obtain⟨s,hs,hcut,rfl⟩:=(lV _ _ _).1 hc;obtain⟨g,hg,hu⟩:=hcov _ hc;have hsp:=l7 hA ha hg hu;have hr:=Km hv hs;rw[hsp]at hr;have ht:s.set.type=2:=by simp[dJ]at hcut;exact hcut.1
 unfold j8 at hr;rw[if_neg (by rw[Jy (oz ho hg)];exact Bool.false_ne_true)]at hr;split at hr
 . rename_i e;rw[<- beq_iff_eq.1 e];exact hg
 . rw[ht]at hr;cases hr
theorem EH{z:aS}{n:Bs}(hne:n ≠ z.apex):cj z.sets ⟨n,2⟩=true ↔ n∈cG z.apex z.sets:=by
 rw[lV];simp only[cj,List.any_eq_true,is,aR,beq_iff_eq,dJ,Bool.not_eq_true',beq_eq_false_iff_ne];constructor
 . rintro⟨s,hs,h1,h2⟩;exact⟨s,hs,⟨h2,by rw[h1];exact hne⟩,h1⟩
 . rintro⟨s,hs,⟨h1,_⟩,h2⟩;exact⟨s,hs,h2,h1⟩
theorem nz{a b c:Bs}(h:aM a b=true)(k:aM b c=true):aM a c=true:=by
 rw[dM]at *; exact k.trans h
theorem oK{a b:Bs}(h:aM a b=true)(k:aM b a=true):a=b:=by
 rw[dM]at *;exact vS ((k.eq_of_length (Nat.le_antisymm k.length_le h.length_le)))
theorem uf{n c:Bs}(hn:an n=true)(h:aM n c=true)(hne:n ≠ c):aM (cz n) c=true:=(kx hn h hne).2.1
theorem tL{n:Bs}(hn:an n=true):aM n (cz n)=true:=by
 unfold aM;rw[vj hn];exact List.isSuffixOf_iff_suffix.2 (List.tail_suffix _)
theorem rz{z:aS}:∀{f:Nat} {n c:Bs},an n=true->nk z f n=some c->c∈cG z.apex z.sets/\aM n c=true
 | 0,n,c,_,h=>by simp[nk]at h
 | f+1,n,c,hv,h=>by
  unfold nk at h;split at h
  . cases h
  . rename_i hne;split at h
    . rename_i hh;cases h;exact⟨(EH hne).1 hh,fF n⟩
    . obtain⟨h1,h2⟩:=rz (eV hv) h;exact⟨h1,nz (tL hv) h2⟩
theorem xc{z:aS}(ho:Ordered z):∀{f:Nat} {n:Bs},an n=true->aM n z.apex=true->f=(bd n).length+1->nk z f n=none-> ∀c∈cG z.apex z.sets,aM n c=false
 | 0,n,_,_,hf,_=>by omega
 | f+1,n,hv,hu,hf,h=>by
  intro c hc;obtain⟨s,hs,hcut,hnm⟩:=(lV _ _ _).1 hc;have hca:aM c z.apex=true:=by
   have:=ho.under s hs;unfold bJ at this;rw[if_pos ⟨ho.name s hs,ho.apex⟩]at this;rw[<- hnm];exact this
  have hne' :c ≠ z.apex:=by simp[dJ]at hcut;rw[<- hnm];exact hcut.2
  unfold nk at h;split at h
  . rename_i e;cases hun:aM n c with
    | false=>rfl
    | true=>rw[e]at hun;exact absurd (oK hca hun) hne'
  . rename_i hne;split at h
    . cases h
    . rename_i hh;obtain⟨_,k2,k3⟩:=kx hv hu hne;have ih:=xc ho (eV hv) k2 (by omega) h c hc;cases hun:aM n c with
      | false=>rfl
      | true =>
       by_cases e:n=c
       . subst e;exact absurd ((EH hne).2 hc) hh
       . rw[uf hv hun e]at ih;cases ih
theorem Hw{z:aS}(hv:bE z=true){n:Bs}(hn:an n=true)(hu:aM n z.apex=true) :
 (sQ z n=none/\spec (bO z) n=[])\/ ∃c,sQ z n=some c/\spec (bO z) n=c/\c∈bO z/\c ≠ []:=by
 have ho:=bu hv;obtain⟨hA,ha,_⟩:=kJ ho;cases h:sQ z n with
 | none=>exact .inl ⟨rfl,pV fun c hc=>xc ho hn hu rfl h c (o6 hc)⟩
 | some c =>
  obtain⟨h1,h2⟩:=rz hn h;have h3:=Br hv h1;exact .inr ⟨c,rfl,l7 hA ha h3 h2,h3,kz (oz ho h3)⟩
theorem Jg{z:aS}(ho:Ordered z){s:Signed}(hs:s∈z.sets):aM s.set.name z.apex=true:=by
 have:=ho.under s hs;unfold bJ at this;rw[if_pos ⟨ho.name s hs,ho.apex⟩]at this;exact this
theorem Bq(p:Bs×Int):cpl p p=0:=(jM.zero _ _).2 rfl
theorem nK{a b:Bs×Int}(h:cpl a b<0):a ≠ b:=fun e=>by subst e;rw[Bq]at h;omega
abbrev RP(l:List Signed):Prop:=l.Pairwise fun a b=>cpl a.place b.place<0
theorem dy.pw:∀{l:List Signed},dy l->RP l
 | [],_=>List.Pairwise.nil
 | x::t,h=>List.Pairwise.cons (l0 h) h.tail.pw
theorem RP.uniq:∀{l:List Signed},RP l-> ∀{a b:Signed},a∈l->b∈l->a.place=b.place->a=b
 | [],_,_,_,ha,_,_=>by cases ha
 | x::l,h,a,b,ha,hb,e=>by
  obtain⟨h1,h2⟩:=List.pairwise_cons.1 h;rcases List.mem_cons.1 ha with ha' | ha' <;> rcases List.mem_cons.1 hb with hb' | hb'
  . rw[ha',hb']
  . subst ha';exact(nK (h1 b hb') e).elim
  . subst hb';exact(nK (h1 a ha') e.symm).elim
  . exact RP.uniq h2 ha' hb' e
theorem mU{l:List Signed}{q:bg}:cj l q=true ↔ ∃s∈l,s.place=q.place:=by
 simp only[cj,List.any_eq_true,lp]
def rem(q:bg)(l:List Signed):List Signed:=l.filter fun x=> !is q x
theorem zZ{s:gi}(h:ed s=true):1<=s.type/\s.type<=8:=by
 unfold ed at h;simp only[aR,Bool.not_eq_true',Bool.or_eq_false_iff,Bool.not_eq_false']at h;have:=h.1.1.1.1.2;simp[within]at this;exact this
theorem y8{z:aS}(ho:Ordered z):aliases z=true ↔ ∀s∈z.sets,∀x∈z.sets,s.set.type=3->x.set.name=s.set.name->x.set.type=3\/x.set.type=8:=by
 unfold aliases;rw[aA];constructor
 . intro h s hs x hx h3 hn;obtain⟨i,hi⟩:=cd hs;obtain⟨j,hj⟩:=cd hx;have hil:=(av.1 hi).1;have hjl:=(av.1 hj).1;obtain⟨p,hp⟩:∃p,z.sets[i-1]? =some p:=⟨_,ah (by omega)⟩
   have hok:=h i (List.mem_range.2 hil);refine Decidable.byContradiction fun hno=>?_
   have hne3:x.set.type ≠ 3:=fun e=>hno (.inl e)
   have hne8:x.set.type ≠ 8:=fun e=>hno (.inr e)
   have hbad:ma z i=false:=by
    refine(mN hi hp).2 ⟨h3,?_⟩;rcases Nat.lt_trichotomy j i with hlt | heq | hgt
    . left
      refine⟨by omega,?_⟩;rcases Nat.lt_or_eq_of_le (show j<=i-1 by omega)with k | k
      . have a1:=(jh (fW ho.rising k hj hp)).1;have a2:=(jh (fW ho.rising (show i-1<i by omega) hp hi)).1;rw[hn]at a1;exact(Fw a1 a2).symm
      . rw[<- k,hj]at hp;cases hp;exact hn
    . subst heq;rw[hi]at hj;cases hj;exact absurd h3 hne3
    . right
      rcases Nat.lt_or_eq_of_le (show i+1<=j by omega)with k | k
      . obtain⟨y,hy⟩:∃y,z.sets[i+1]? =some y:=⟨_,ah (by omega)⟩
        have a1:=jh (fW ho.rising k hy hj);have a2:=(jh (fW ho.rising (show i<i+1 by omega) hi hy)).1;have hyn:y.set.name=s.set.name:=by
         have:=a1.1;rw[hn]at this;exact Fw this a2
        refine⟨y,hy,hyn,?_⟩;have:=a1.2 (hyn.trans hn.symm);have:=(zZ (ho.set x hx)).2;omega
      . exact⟨x,by rw[k];exact hj,hn,hne8⟩
   rw[hbad]at hok;cases hok
 . intro h i hi;have hil:=List.mem_range.1 hi;obtain⟨s,hs⟩:∃s,z.sets[i]? =some s:=⟨_,ah hil⟩
   obtain⟨p,hp⟩:∃p,z.sets[i-1]? =some p:=⟨_,ah (by omega)⟩
   cases hb:ma z i with
   | true=>rfl
   | false =>
    obtain⟨h3,k⟩:=(mN hs hp).1 hb;have hsm:=ar hs;rcases k with ⟨k1,k2⟩ | ⟨x,k1,k2,k3⟩
    . have:=(jh (fW ho.rising (show i-1<i by omega) hp hs)).2 k2;rcases h s hsm p (ar hp) h3 k2 with e | e <;> omega
    . have:=(jh (fW ho.rising (show i<i+1 by omega) hs k1)).2 k2.symm;rcases h s hsm x (ar k1) h3 k2 with e | e
      . omega
      . exact absurd e k3
theorem lG{α:Type}{l:List α}{p:Nat->Bool}{q:α->Bool}(h:∀i s,l[i]? =some s->p i=q s):(List.range l.length).all p=true ↔ ∀s∈l,q s=true:=by
 rw[aA];constructor
 . intro k s hs;obtain⟨i,hi⟩:=cd hs;rw[<- h i s hi];exact k i (List.mem_range.2 (av.1 hi).1)
 . intro k i hi;have hi:=List.mem_range.1 hi;rw[h i _ (ah hi)];exact k _ (List.getElem_mem hi)
theorem Ordered.bool{z:aS}(h:Ordered z):ordered z=true:=by
 unfold ordered;have hall:(List.range z.sets.length).all (pP z)=true:=by
  rw[aA];intro i hi;have hi:=List.mem_range.1 hi;obtain⟨s,hs⟩:∃s,z.sets[i]? =some s:=⟨_,ah hi⟩
  obtain⟨p,hp⟩:∃p,z.sets[i-1]? =some p:=⟨_,ah (by omega)⟩
  have hsm:=ar hs;have hpm:=ar hp;rw[ph hs hp,lu,h.set s hsm,h.under s hsm,rq _ _ (h.name p hpm) (h.name s hsm)];by_cases h0:i=0
  . subst h0;rfl
  . have:=fW h.rising (show i-1<i by omega) hp hs;have e:cpl (p.set.name,p.set.type) (s.set.name,s.set.type)<0:=this;have e2:¬cpl (p.set.name,p.set.type) (s.set.name,s.set.type)>=0:=by omega
    simp[e2]
 have hf:¬((z.sets.length:Int)>20000):=by have:=h.few;omega
 rw[hall,h.apex,h.tame];simp[hf]
structure Val(z:aS):Prop where
 ord:Ordered z
 start:cj z.sets ⟨z.apex,4⟩=true
 serv:cj z.sets ⟨z.apex,2⟩=true
 fit:∀s∈z.sets,fits s.set.type (s.set.name==z.apex)=true
 ali:∀s∈z.sets,∀x∈z.sets,s.set.type=3->x.set.name=s.set.name->x.set.type=3\/x.set.type=8
 cut:∀s∈z.sets,j8 s (spec (bO z) s.set.name)=false
 sig:∀s∈z.sets,mA s (spec (bO z) s.set.name)=false
 form:∀s∈z.sets,fk s.sigs z.apex=true
theorem EE(z:aS):(List.range z.sets.length).all (jc z)=true ↔ ∀s∈z.sets,fits s.set.type (s.set.name==z.apex)=true :=
 lG fun i s h=>by unfold jc;rw[h]
theorem BF(z:aS):np z=true ↔ ∀s∈z.sets,fk s.sigs z.apex=true :=
 lG fun i s h=>by unfold lB;rw[h]
theorem zh{z:aS}(ho:Ordered z):mf z (cL z)=true ↔ ∀s∈z.sets,j8 s (spec (bO z) s.set.name)=false:=by
 unfold mf;rw[lG (q:=fun s=> !j8 s (spec (bO z) s.set.name)) fun i s h=>by unfold cutAt;rw[y5 h ho,h]];simp only[Bool.not_eq_true']
theorem z7{z:aS}(ho:Ordered z):nw z (cL z)=true ↔ ∀s∈z.sets,mA s (spec (bO z) s.set.name)=false:=by
 unfold nw;rw[lG (q:=fun s=> !mA s (spec (bO z) s.set.name)) fun i s h=>by unfold oH;rw[y5 h ho,h]];simp only[Bool.not_eq_true']
theorem qX{z:aS}:bE z=true ↔ Val z:=by
 constructor
 . intro h;have ho:=bu h;unfold bE im at h;simp only[aR]at h;obtain⟨⟨_,⟨⟨a1,a2⟩,a3⟩⟩,⟨⟨b1,b2⟩,b3⟩,b4⟩:=h;exact⟨ho,a1,a2,(EE z).1 a3,(y8 ho).1 b1,(zh ho).1 b2,(z7 ho).1 b3,(BF z).1 b4⟩
 . intro h;unfold bE im;dsimp only;rw[h.ord.bool,h.start,h.serv,(EE z).2 h.fit,(y8 h.ord).2 h.ali,(zh h.ord).2 h.cut,(z7 h.ord).2 h.sig,(BF z).2 h.form];rfl
theorem GF{z:aS}(ho:Ordered z)(n:Bs):(spec (bO z) n=[]/\ ∀c∈cG z.apex z.sets,aM n c=false) \/
 (spec (bO z) n∈cG z.apex z.sets/\aM n (spec (bO z) n)=true/\ ∀c∈cG z.apex z.sets,aM n c=true->aM c (spec (bO z) n)=true):=by
 obtain⟨hA,ha,hg⟩:=kJ ho;by_cases he:∃h∈bO z,aM n h=true
 . obtain⟨h,hm,hu⟩:=he;have e:=l7 hA ha hm hu;rw[e];refine .inr ⟨o6 hm,hu,fun c hc hn=>?_⟩;obtain⟨g,hgm,hgu⟩:=hg c hc;have e2:=l7 hA ha hgm (nz hn hgu);rw[<- e,e2];exact hgu
 . have hno:∀h∈bO z,aM n h=false:=fun h hm=>by
    cases hu:aM n h with
    | false=>rfl
    | true=>exact(he ⟨h,hm,hu⟩).elim
   refine .inl ⟨pV hno,fun c hc=>?_⟩;cases hu:aM n c with
   | false=>rfl
   | true =>
    obtain⟨g,hgm,hgu⟩:=hg c hc;exact(he ⟨g,hgm,nz hu hgu⟩).elim
theorem Hy{z:aS}(ho:Ordered z){c:Bs}(h:c∈cG z.apex z.sets):c ≠ []/\c ≠ z.apex/\an c=true/\aM c z.apex=true/\cj z.sets ⟨c,2⟩=true:=by
 obtain⟨s,hs,h1,h2⟩:=(lV _ _ _).1 h;subst h2;unfold dJ at h1;simp only[aR,beq_iff_eq,Bool.not_eq_true',beq_eq_false_iff_ne]at h1;exact⟨kz (ho.name s hs),h1.2,ho.name s hs,Jg ho hs,mU.2 ⟨s,hs,by show(s.set.name,s.set.type)=_;rw[h1.1];rfl⟩⟩
theorem Lq{s:Signed}(h:ed s.set=true):b9 (qOf s)=true:=by
 have h1:=jn h;have h2:=zZ h;unfold b9 qOf;simp only[h1,aF,aR,decide_eq_true_eq];exact⟨h2.1,h2.2⟩
theorem lK{z:aS}(hv:bE z=true){s:Signed}(hs:s∈z.sets):Me z (qOf s)=(s,true,0):=by
 have ho:=bu hv;have hh:cj z.sets (qOf s)=true:=mU.2 ⟨s,hs,rfl⟩;obtain⟨x,hx,hm,hp⟩:=BG ho (q:=qOf s) (ho.name s hs) hh;have e:=ho.rising.pw.uniq hm hs hp;subst e;unfold Me;rw[if_neg (by simp[Lq (ho.set _ hs),hv]),if_neg (by simp[hh]),hx];rfl
theorem LX{z:aS}(hv:bE z=true){c n:Bs}(hc:c∈cG z.apex z.sets)(hu:aM n c=true):spec (bO z) n=c:=by
 obtain⟨hA,ha,_⟩:=kJ (bu hv);exact l7 hA ha (Br hv hc) hu
theorem oo{l:List Signed}{q:bg}(h:cj l q=true):∃(k:Nat) (s:Signed),atI l q=k/\l[k]? =some s/\s.place=q.place:=by
 unfold atI;cases hf:l.findIdx? (is q)with
 | none =>
  rw[List.findIdx?_eq_none_iff]at hf;unfold cj at h;rw[List.any_eq_true]at h;obtain⟨s,hs,e⟩:=h;rw[hf s hs]at e;cases e
 | some k =>
  obtain⟨h1,h2,_⟩:=List.findIdx?_eq_some_iff_getElem.1 hf;exact⟨k,l[k],rfl,ah h1,(lp q _).1 h2⟩
theorem NS{l:List Signed}(hl:RP l){q:bg}{k:Nat}{s:Signed}(hk:l[k]? =some s)(hp:s.place=q.place):posOf l q=k:=by
 unfold posOf;have h1:l=l.take k++s::l.drop (k+1):=by
  obtain⟨hlt,e⟩:=av.1 hk
  conv=>lhs;rw[<- List.take_append_drop k l,List.drop_eq_getElem_cons hlt,e]
 have hlt:k<l.length:=(av.1 hk).1;have h2:∀x∈l.take k,decide (cpl x.place q.place<0)=true:=fun x hx=>by
  have hl' :=hl;rw[h1]at hl';have:=(List.pairwise_append.1 hl').2.2 x hx s (List.mem_cons_self ..);rw[<- hp];simpa using this
 conv=>lhs;rw[h1]
 rw[List.takeWhile_append_of_pos h2,List.takeWhile_cons,if_neg (by rw[hp,Bq];simp)];simp;omega
def bx(z:aS)(n:Bs):Bs:=((cG z.apex z.sets).find? fun c=>aM n c).getD []
theorem Kj{z:aS}(hv:bE z=true)(n:Bs):bx z n=spec (bO z) n:=by
 unfold bx;cases hf:(cG z.apex z.sets).find? fun c=>aM n c with
 | none =>
  rw[List.find?_eq_none]at hf;rcases GF (bu hv) n with ⟨e,_⟩ | ⟨e1,e2,_⟩
  . rw[e];rfl
  . exact absurd e2 (hf _ e1)
 | some c =>
  have h1:=List.find?_some hf;have h2:=List.mem_of_find?_eq_some hf;rw[LX hv h2 h1];rfl
theorem EB{z:aS}{n:Bs}(hv:bE z=true)(hn:an n=true)(hu:aM n z.apex=true):dW z n=(bx z n, !(bx z n==[]),0):=by
 have ha:=(bu hv).apex;have hu' :(bJ n z.apex).1=true:=by unfold bJ;rw[if_pos ⟨hn,ha⟩];exact hu
 rw[Kj hv];unfold dW;rw[if_neg (by simp[hv,hn]),if_neg (by simp[hu'])];rcases Hw hv hn hu with ⟨e1,e2⟩ | ⟨c,e1,e2,_,e3⟩
 . rw[e1,e2];rfl
 . rw[e1,e2];have:(c==[])=false:=by simpa using e3
   rw[this];rfl
def ref(o:Bool)(s:Signed):Bool:=o||(s.set.type==2)
def mark(s:Signed)(o:Bool):Bs:=if ref o s=true then[]else s.set.name++[0]
end NP
namespace Go.Proofs.YtjapjahfllomkaaGreatDoor
open NQ Go NP Go.RowKit
theorem I9(q:bg):NQ.Fn cx 141 [.agg (cU q)] (.d (.bool (b9 q))) []:=by
 refine aP bf mixed Tryz.func141 (by kernel_rfl) rfl (ai rfl) ?_;conv=>whnf
 (refine⟨_,_,nD q.name,?_⟩;conv=>whnf)
 (refine ae (fun h=>?_) (fun h=>?_) <;> (rw[h];conv=>whnf))
 . have h1:=h
   (refine ae (fun h=>?_) (fun h=>?_) <;> (rw[h];conv=>whnf))
   . refine af rfl ?_;show AV.d (D.bool _)=_;simp only[b9, *, if_true,if_false,aB,aK,aI,aJ,aO,aN,aC,aE,aH,aF,aG,aD]
   . refine af rfl ?_;show AV.d (D.bool _)=_;simp only[b9, *, if_true,if_false,aB,aK,aI,aJ,aO,aN,aC,aE,aH,aF,aG,aD]
 . refine af rfl ?_;show AV.d (D.bool _)=_;simp only[b9, *, if_true,if_false,aB,aK,aI,aJ,aO,aN,aC,aE,aH,aF,aG,aD]
theorem zV(z:aS)(hn:z.sets.length<=100000):NQ.Fn cx 115 [.agg (bq z)] (.d (.bool (bE z))) []:=by
 have:=Jw z hn
 rwa [LY]at this
theorem Kk(z:aS)(n:Bs)(hn:z.sets.length<=100000)(hv:∀s∈z.sets,an s.set.name=true)(hs:an n=true):NQ.Fn cx 118 [.agg (bq z), .str n] (.d (.str (bx z n))) []:=by
 refine aP bf mixed Tryz.func118 (by kernel_rfl) rfl (ai rfl) ?_;conv=>whnf
 (refine⟨_,_,EC z hn,?_⟩;conv=>whnf)
 obtain⟨l,hl0⟩:∃l,l=cG z.apex z.sets:=⟨_,rfl⟩
 have hln:l.length<=100000:=by rw[hl0];exact Nat.le_trans (mg _ _) hn
 have hvl:∀c∈l,an c=true:=fun c hc=>by
  rw[hl0]at hc;obtain⟨s,hs,e⟩:=j9 _ _ _ hc;rw[<- e];exact hv s hs
 unfold bx;rw[<- hl0];refine⟨Nat,fun k=>⟨[(1, .d (.str n)),(5, .d (.slice 1 (l.map au))),(6, .d (.int .i64 k))],[]⟩,fun k=>k<=l.length/\(l.drop k).find? (fun c=>aM n c)=l.find? (fun c=>aM n c),fun k=>l.length-k,
  ⟨0,⟨by omega,rfl⟩,aj.keep ⟨⟨rfl,rfl⟩,⟨rfl,rfl⟩,⟨rfl,rfl⟩,trivial⟩ trivial⟩,fun k ⟨hk,hf⟩=>?_⟩
 conv=>whnf
 refine ae (fun h1=>?_) (fun h1=>?_) <;> (rw[h1];conv=>whnf)
 . have hlt:k<l.length:=by simp at h1;omega
   obtain⟨c,hc⟩:∃s,l[k]? =some s:=⟨_,ah hlt⟩
   rw[drop_cons hc,List.find?_cons]at hf;refine⟨az k,au c,aT hc,?_⟩
   conv=>whnf
   (refine⟨_,_,lj n c (bD hs) (bD (hvl c (ar hc))),?_⟩;conv=>whnf)
   (refine ae (fun h=>?_) (fun h=>?_) <;> (rw[h];conv=>whnf))
   . refine⟨az k,au c,aT hc,?_⟩
     conv=>whnf
     refine af rfl ?_;rw[h]at hf;rw[<- hf];rfl
   . rw[h]at hf;exact⟨k+1,⟨hlt,hf⟩,by(show l.length-(k+1)<l.length-k;omega),aj.keep ⟨⟨rfl,rfl⟩,⟨rfl,rfl⟩,⟨aq (by omega),rfl⟩,trivial⟩ trivial⟩
 . obtain rfl:k=l.length:=by simp at h1;omega
   refine af rfl ?_;rw[List.drop_length]at hf;rw[<- hf];rfl
end Go.Proofs.YtjapjahfllomkaaGreatDoor
namespace NP
open NQ Go
structure View where
 apex:Bs
 sets:List Signed
 q:bg
 cut:Bs
 behind:Bool
 cP:Bs
def jE:Nat->List Signed->List (List D×D)
 | _,[]=>[]
 | i,s::t=>(cU (qOf s), .int .i64 i)::jE (i+1) t
def c7(v:View):List D:=[.str v.apex, .slice 5 (v.sets.map ay), .kmap (jE 0 v.sets), .str v.q.name, .int .i64 v.q.type, .str v.cut, .bool v.behind, .str v.cP]
theorem M1(q:bg)(s:Signed):cY [.str, .int .i64] ((cU q).map .d) ((cU (qOf s)).map .d)=some (is q s):=by
 show some ((q.name==s.set.name)&&((q.type==s.set.type)&&true))=_
 rw[aH];unfold is
 congr 1
 rw[Bool.beq_comm (a:=q.name),Bool.beq_comm (a:=q.type)]
theorem yD(q:bg):∀(l:List Signed) (i:Nat),mq [.str, .int .i64] (cU q) (jE i l)=some ((l.findIdx? (is q)).map fun k=>D.int .i64 ((i+k:Nat):Int))
 | [],i=>rfl
 | s::t,i=>by
  rw[jE,mq,M1];cases h:is q s with
  | true=>simp[List.findIdx?_cons,h]
  | false =>
   simp only;rw[yD q t (i+1),List.findIdx?_cons,h];simp only[aB,if_false];cases t.findIdx? (is q) <;> simp;omega
def oh(l:List Signed)(n:Bs):Nat:=(l.takeWhile fun s=>decide (aL s.set.name n<0)).length
theorem Nr(l:List Signed)(n:Bs):oh l n<=l.length:=(List.takeWhile_sublist _).length_le
theorem rT{n:Bs}:∀{l:List Signed},l.Pairwise (fun a b=>aL a.set.name b.set.name<=0)-> ∀{i:Nat} {s:Signed},l[i]? =some s->(oh l n<=i ↔ 0<=aL s.set.name n)
 | [],_,i,s,h=>by cases h
 | x::l,hp,i,s,h=>by
  obtain⟨h1,h2⟩:=List.pairwise_cons.1 hp;unfold oh;rw[List.takeWhile_cons];by_cases hx:aL x.set.name n<0
  . rw[if_pos (by simpa using hx),List.length_cons];cases i with
    | zero=>cases h;exact⟨fun h=>by omega,fun h=>by omega⟩
    | succ i =>
     have:=rT (n:=n) h2 (i:=i) (s:=s) (by simpa using h);unfold oh at this;omega
  . rw[if_neg (by simpa using hx),List.length_nil];refine⟨fun _=>?_,fun _=>Nat.zero_le _⟩;cases i with
    | zero=>cases h;omega
    | succ i =>
     have hm:s∈l:=ar (i:=i) (by simpa using h);have h3:=h1 s hm;by_cases h4:aL s.set.name n<0
     . exact absurd (aY.OH h3 h4) hx
     . omega
def exB(l:List Signed)(n:Bs):Bool:=match l[oh l n]? with | some s=>(bJ s.set.name n).1 | none=>false
end NP
namespace Go.Proofs.YtjapjahfllomkaaGreatDoor
open NQ Go NP Go.RowKit
theorem vl(a b:Bs):NQ.Fn cx 299 [.str a, .str b] (.d (.int .i64 (bP a b).1)) []:=by
 refine aP bf mixed Tryz.func299 (by kernel_rfl) rfl (ai rfl) ?_;conv=>whnf
 (refine⟨_,_,ra a b,?_⟩;conv=>whnf)
 exact af rfl rfl
theorem zB(a b:Bs):NQ.Fn cx 257 [.str a, .str b] (.d (.bool (bJ a b).1)) []:=by
 refine aP bf mixed Tryz.func257 (by kernel_rfl) rfl (ai rfl) ?_;conv=>whnf
 (refine⟨_,_,ri a b,?_⟩;conv=>whnf)
 exact af rfl rfl
theorem Gz(n c:Nat)(x y:D)(hn:n<=100000)(hc:c<=n)(hf:∀i:Nat,i<n->NQ.Fn cx 298 [.int .i64 i,x,y] (.d (.bool (decide (c<=i)))) []) :
 NQ.Fn cx 297 [.int .i64 n, .fn 298 [] [x,y]] (.d (.int .i64 c)) []:=by
 refine aP bf mixed Tryz.func297 (by kernel_rfl) rfl (ai rfl) ?_;conv=>whnf
 refine⟨Nat×Nat,fun z=>⟨[(1, .d (.fn 298 [] [x,y])),(5, .d (.int .i64 z.1)),(6, .d (.int .i64 z.2))],[]⟩,fun z=>z.1<=c/\c<=z.2/\z.2<=n,fun z=>z.2-z.1,
  ⟨(0,n),⟨Nat.zero_le _,hc,Nat.le_refl _⟩,aj.keep ⟨⟨rfl,rfl⟩,⟨rfl,rfl⟩,⟨rfl,rfl⟩,trivial⟩ trivial⟩,?_⟩
 rintro⟨i,j⟩ ⟨h1,h2,h3⟩;simp only at h1 h2 h3
 conv=>whnf
 refine ae (fun hlt=>?_) (fun hlt=>?_) <;> (rw[hlt];conv=>whnf)
 . have hij:i<j:=by simp at hlt;omega
   rw[B8 (by omega)]
   (refine⟨_,_,hf ((i+j) / 2) (by omega),?_⟩;conv=>whnf)
   refine ae (fun h=>?_) (fun h=>?_) <;> (rw[h];conv=>whnf)
   . have hlt:(i+j) / 2<c:=by simp at h;omega
     exact⟨((i+j) / 2+1,j),⟨hlt,h2,h3⟩,by(show j-((i+j) / 2+1)<j-i;omega),aj.keep ⟨⟨rfl,rfl⟩,⟨aq (by omega),rfl⟩,⟨rfl,rfl⟩,trivial⟩ trivial⟩
   . have hle:c<=(i+j) / 2:=by simp at h;omega
     exact⟨(i,(i+j) / 2),⟨h1,hle,by(show(i+j) / 2<=n;omega)⟩,by(show(i+j) / 2-i<j-i;omega),aj.keep ⟨⟨rfl,rfl⟩,⟨rfl,rfl⟩,⟨rfl,rfl⟩,trivial⟩ trivial⟩
 . obtain rfl:i=c:=by simp at hlt;omega
   exact af rfl rfl
theorem GA(n c:Nat)(x y:D)(hn:n<=100000)(hc:c<=n)(hf:∀i:Nat,i<n->NQ.Fn cx 314 [.int .i64 i,x,y] (.d (.bool (decide (c<=i)))) []) :
 NQ.Fn cx 297 [.int .i64 n, .fn 314 [] [x,y]] (.d (.int .i64 c)) []:=by
 refine aP bf mixed Tryz.func297 (by kernel_rfl) rfl (ai rfl) ?_;conv=>whnf
 refine⟨Nat×Nat,fun z=>⟨[(1, .d (.fn 314 [] [x,y])),(5, .d (.int .i64 z.1)),(6, .d (.int .i64 z.2))],[]⟩,fun z=>z.1<=c/\c<=z.2/\z.2<=n,fun z=>z.2-z.1,
  ⟨(0,n),⟨Nat.zero_le _,hc,Nat.le_refl _⟩,aj.keep ⟨⟨rfl,rfl⟩,⟨rfl,rfl⟩,⟨rfl,rfl⟩,trivial⟩ trivial⟩,?_⟩
 rintro⟨i,j⟩ ⟨h1,h2,h3⟩;simp only at h1 h2 h3
 conv=>whnf
 refine ae (fun hlt=>?_) (fun hlt=>?_) <;> (rw[hlt];conv=>whnf)
 . have hij:i<j:=by simp at hlt;omega
   rw[B8 (by omega)]
   (refine⟨_,_,hf ((i+j) / 2) (by omega),?_⟩;conv=>whnf)
   refine ae (fun h=>?_) (fun h=>?_) <;> (rw[h];conv=>whnf)
   . have hlt:(i+j) / 2<c:=by simp at h;omega
     exact⟨((i+j) / 2+1,j),⟨hlt,h2,h3⟩,by(show j-((i+j) / 2+1)<j-i;omega),aj.keep ⟨⟨rfl,rfl⟩,⟨aq (by omega),rfl⟩,⟨rfl,rfl⟩,trivial⟩ trivial⟩
   . have hle:c<=(i+j) / 2:=by simp at h;omega
     exact⟨(i,(i+j) / 2),⟨h1,hle,by(show(i+j) / 2<=n;omega)⟩,by(show(i+j) / 2-i<j-i;omega),aj.keep ⟨⟨rfl,rfl⟩,⟨rfl,rfl⟩,⟨rfl,rfl⟩,trivial⟩ trivial⟩
 . obtain rfl:i=c:=by simp at hlt;omega
   exact af rfl rfl
theorem jg(v:View)(n:Bs)(t:Int):NQ.Fn cx 256 [.ptr (c7 v), .str n, .int .i64 t] (.d (.int .i64 (atI v.sets ⟨n,t⟩))) []:=by
 refine aP bf mixed Tryz.func256 (by kernel_rfl) rfl (ai rfl) ?_;conv=>whnf
 have hk:=yD ⟨n,t⟩ v.sets 0;unfold atI;cases hf:v.sets.findIdx? (is ⟨n,t⟩)with
 | some k =>
  rw[hf]at hk;refine⟨some (.int .i64 k),by rw[Option.map_some,Nat.zero_add]at hk;exact hk,?_⟩
  conv=>whnf
  exact af rfl rfl
 | none =>
  rw[hf]at hk;refine⟨none,hk,?_⟩
  conv=>whnf
  exact af rfl rfl
theorem sj(v:View):NQ.Fn cx 260 [.ptr (c7 v)] (.d (.int .i64 (atI v.sets ⟨v.apex,4⟩))) []:=by
 refine aP bf mixed Tryz.func260 (by kernel_rfl) rfl (ai rfl) ?_;conv=>whnf
 (refine⟨_,_,jg v v.apex 4,?_⟩;conv=>whnf)
 exact af rfl rfl
theorem FN(v:View)(n:Bs)(i:Nat)(s:Signed)(hs:v.sets[i]? =some s):NQ.Fn cx 298 [.int .i64 i, .ptr [.ptr (c7 v)], .ptr [.str n]] (.d (.bool (decide ((bP s.set.name n).1>=0)))) []:=by
 refine aP bf mixed Tryz.func298 (by kernel_rfl) rfl (ai rfl) ?_;conv=>whnf
 (refine⟨(by kernel_rfl:bF _ _=true),?_⟩;conv=>whnf)
 refine⟨az i,ay s,aT hs,?_⟩
 conv=>whnf
 (refine⟨_,_,vl s.set.name n,?_⟩;conv=>whnf)
 exact af rfl rfl
theorem sY(v:View)(n:Bs)(hn:v.sets.length<=100000)(hr:dy v.sets)(hv:∀s∈v.sets,an s.set.name=true)(hvn:an n=true):NQ.Fn cx 259 [.ptr (c7 v), .str n] (.d (.bool (exB v.sets n))) []:=by
 refine aP bf mixed Tryz.func259 (by kernel_rfl) rfl (ai rfl) ?_;conv=>whnf
 have hp:=l6 hr;have hle:=Nr v.sets n;have hS:=Gz v.sets.length (oh v.sets n) (.ptr [.ptr (c7 v)]) (.ptr [.str n]) hn hle (fun i hi=>by
  obtain⟨s,hs⟩:∃s,v.sets[i]? =some s:=⟨_,ah hi⟩
  have h:=FN v n i s hs;have e:decide ((bP s.set.name n).1>=0)=decide (oh v.sets n<=i):=by
   have hc:(bP s.set.name n).1=aL s.set.name n:=by unfold bP;rw[if_pos ⟨hv s (ar hs),hvn⟩]
   rw[hc,decide_eq_decide];exact(rT hp hs).symm
  rwa [e]at h)
 have hl:((v.sets.map ay).length:Int)=(v.sets.length:Int):=by rw[ao]
 rw[hl];refine⟨_,hS,rfl,?_⟩
 conv=>whnf
 (refine⟨(by kernel_rfl:bF _ _=true),?_⟩;conv=>whnf)
 rw[hl];unfold exB;cases hg:v.sets[oh v.sets n]? with
 | none =>
  have:decide (((oh v.sets n:Nat):Int)<(v.sets.length:Int))=false:=by
   rw[List.getElem?_eq_none_iff]at hg;rw[decide_eq_false];omega
  rw[this]
  conv=>whnf
  exact af rfl rfl
 | some s =>
  have:decide (((oh v.sets n:Nat):Int)<(v.sets.length:Int))=true:=by
   have:=(av.1 hg).1;rw[decide_eq_true];omega
  rw[this]
  conv=>whnf
  refine⟨az _,ay s,aT hg,?_⟩
  conv=>whnf
  (refine⟨_,_,zB s.set.name n,?_⟩;conv=>whnf)
  exact af rfl rfl
theorem KW(l:List Int)(x:Int)(hl:l.length<=100000):NQ.Fn cx 312 [.slice 1 (l.map dt), .int .i64 x] (.d (.int .i64 (match l.findIdx? (· ==x)with | some k=>(k:Int) | none=> -1))) []:=by
 refine aP bf mixed Tryz.func312 (by kernel_rfl) rfl (ai rfl) ?_;conv=>whnf
 refine⟨Nat,fun k=>⟨[(0, .d (.slice 1 (l.map dt))),(1, .d (.int .i64 x)),(7, .d (.int .i64 ((l.map dt).length:Int))),(8, .d (.int .i64 k))],[]⟩,fun k=>k<=l.length/\ ∀j y,j<k->l[j]? =some y->(y==x)=false,fun k=>l.length-k,
  ⟨0,⟨by omega,fun j y h=>by omega⟩,aj.keep ⟨⟨rfl,rfl⟩,⟨rfl,rfl⟩,⟨rfl,rfl⟩,⟨rfl,rfl⟩,trivial⟩ trivial⟩,fun k ⟨hk,hall⟩=>?_⟩
 conv=>whnf
 refine ae (fun h1=>?_) (fun h1=>?_) <;> (rw[h1];conv=>whnf)
 . have hlt:k<l.length:=by simp at h1;omega
   obtain⟨y,hy⟩:∃s,l[k]? =some s:=⟨_,ah hlt⟩
   refine⟨az k,dt y,aT hy,?_⟩
   conv=>whnf
   (refine ae (fun h=>?_) (fun h=>?_) <;> (rw[h];conv=>whnf))
   . refine af rfl ?_;have:l.findIdx? (· ==x)=some k:=by
      rw[List.findIdx?_eq_some_iff_getElem];refine⟨hlt,?_,fun j hj=>?_⟩
      . obtain⟨_,e⟩:=av.1 hy;rw[e];simp at h ⊢;exact h.symm
      . have:=hall j l[j] hj (ah (by omega));simpa using this
     rw[this];rfl
   . refine⟨k+1,⟨hlt,fun j z hj hz=>?_⟩,by(show l.length-(k+1)<l.length-k;omega),aj.keep ⟨⟨rfl,rfl⟩,⟨rfl,rfl⟩,⟨rfl,rfl⟩,⟨aq (by omega),rfl⟩,trivial⟩ trivial⟩;rcases Nat.lt_or_eq_of_le (Nat.le_of_lt_succ hj)with h2 | rfl
     . exact hall j z h2 hz
     . rw[hy]at hz;cases hz;simp at h ⊢;exact fun e=>h e.symm
 . obtain rfl:k=l.length:=by simp at h1;omega
   refine af rfl ?_;have:l.findIdx? (· ==x)=none:=by
    rw[List.findIdx?_eq_none_iff];intro y hy;obtain⟨j,hj⟩:=cd hy;exact hall j y (av.1 hj).1 hj
   rw[this];rfl
theorem Dn(l:List Int)(x:Int)(hl:l.length<=100000):NQ.Fn cx 296 [.slice 1 (l.map dt), .int .i64 x] (.d (.bool (l.contains x))) []:=by
 refine aP bf mixed Tryz.func296 (by kernel_rfl) rfl (ai rfl) ?_;conv=>whnf
 (refine⟨_,_,KW l x hl,?_⟩;conv=>whnf)
 refine af rfl ?_;show AV.d (D.bool (decide ((match l.findIdx? (· ==x)with | some k=>(k:Int) | none=> -1)>=0)))=_
 congr 2
 cases h:l.findIdx? (· ==x)with
 | some k =>
  obtain⟨h1,h2,_⟩:=List.findIdx?_eq_some_iff_getElem.1 h;have:l.contains x=true:=by
   rw[cr];have e:l[k]=x:=by simpa using h2
   exact e ▸ List.getElem_mem h1
  rw[this,decide_eq_true];exact az k
 | none =>
  have:l.contains x=false:=by
   rw[<- Bool.not_eq_true,cr];intro hm;have:=List.findIdx?_eq_none_iff.1 h x hm;simp at this
  rw[this];rfl
end Go.Proofs.YtjapjahfllomkaaGreatDoor
namespace NP
open NQ Go
structure Ans where
 kind:Int
 sets:List Signed
 cut:Bs
 deriving DecidableEq
def dq(a:Ans):List D:=[.int .i64 a.kind, .slice 5 (a.sets.map ay), .str a.cut]
def cn(l:List Signed):List Int->List Int->List Signed
 | _,[]=>[]
 | seen,p::t=>if (decide (p<0)||seen.contains p)=true then cn l (seen++[p]) t else(l[p.toNat]?).getD yf::cn l (seen++[p]) t
end NP
namespace Go.Proofs.YtjapjahfllomkaaGreatDoor
open NQ Go NP Go.RowKit
theorem Gx(l:List Int)(k:Nat):((l.map dt).drop ((0:Nat):Int).toNat).take (((k:Nat):Int).toNat-((0:Nat):Int).toNat)=(l.take k).map dt:=by
 simp[List.map_take]
theorem il(v:View)(kind:Int)(ps:List Int)(hn:ps.length<=1000)(hp:∀p∈ps,p<v.sets.length)(hs:∀s∈v.sets,Small s) :
 FnB cx 258 (c7 v) [.int .i64 kind, .slice 1 (ps.map dt)] (.agg ((dq ⟨kind,cn v.sets [] ps,[]⟩).map .d)) (c7 v):=by
 refine gx (fun _=>[]) bf mixed Tryz.func258 (by kernel_rfl) rfl (ai rfl) (ai rfl) ?_;conv=>whnf
 refine ⟨Nat × List Signed, fun x => ⟨[(0, .ptr 100000 0), (2, .d (.slice 1 (ps.map dt))), (6, .ptr 6 0), (7, .ptr 7 0), (13, .d (.slice 1 (ps.map dt))), (14, .d (.int .i64 ((ps.map dt).length : Int))), (15, .d (.int .i64 x.1))],
     [(100000, .box ((c7 v).map .d)),(6, .box [.d (.int .i64 0), .nil 5, .d (.str [])]),(7, .box [.d (.int .i64 kind), .own 200, .d (.str [])]),(200, .row 74 5 (x.2.map ay))]⟩,
  fun x=>x.1<=ps.length/\x.2.length<=x.1/\x.2++cn v.sets (ps.take x.1) (ps.drop x.1)=cn v.sets [] ps,fun x=>ps.length-x.1,
  ⟨(0,[]),⟨by omega,by simp,by simp⟩,(aj.rU 7 1 200 5 [.d (.int .i64 kind), .nil 5, .d (.str [])] 74 5 rfl rfl rfl (by decide)).trans (aj.keep ⟨⟨rfl,rfl⟩,⟨rfl,rfl⟩,⟨rfl,rfl⟩,⟨rfl,rfl⟩,⟨rfl,rfl⟩,⟨rfl,rfl⟩,⟨rfl,rfl⟩,trivial⟩ ⟨⟨rfl,rfl⟩,⟨rfl,rfl⟩,⟨rfl,rfl⟩,⟨rfl,rfl⟩,trivial⟩)⟩,?_⟩
 rintro⟨k,acc⟩ ⟨hk,hl,hc⟩;simp only at hk hl hc
 conv=>whnf
 refine ae (fun h1=>?_) (fun h1=>?_) <;> (rw[h1];conv=>whnf)
 . have hlt:k<ps.length:=by simp at h1;omega
   obtain⟨p,hpk⟩:∃p,ps[k]? =some p:=⟨_,ah hlt⟩
   rw[drop_cons hpk,cn, <- bn hpk]at hc;refine⟨az k,dt p,aT hpk,?_⟩
   conv=>whnf
   have skip:(decide (p<0)||(ps.take k).contains p)=true-> ∀st,aj cx st ⟨[(0, .ptr 100000 0),(2, .d (.slice 1 (ps.map dt))),(6, .ptr 6 0),(7, .ptr 7 0),(13, .d (.slice 1 (ps.map dt))),(14, .d (.int .i64 ((ps.map dt).length:Int))),(15, .d (.int .i64 ((k+1:Nat):Int)))],
    [(100000, .box ((c7 v).map .d)),(6, .box [.d (.int .i64 0), .nil 5, .d (.str [])]),(7, .box [.d (.int .i64 kind), .own 200, .d (.str [])]),(200, .row 74 5 (acc.map ay))]⟩ ->
    ∃y:Nat×List Signed,(y.1<=ps.length/\y.2.length<=y.1/\y.2++cn v.sets (ps.take y.1) (ps.drop y.1)=cn v.sets [] ps)/\ps.length-y.1<ps.length-k/\aj cx st ⟨[(0, .ptr 100000 0),(2, .d (.slice 1 (ps.map dt))),(6, .ptr 6 0),(7, .ptr 7 0),(13, .d (.slice 1 (ps.map dt))),(14, .d (.int .i64 ((ps.map dt).length:Int))),(15, .d (.int .i64 y.1))],
    [(100000, .box ((c7 v).map .d)),(6, .box [.d (.int .i64 0), .nil 5, .d (.str [])]),(7, .box [.d (.int .i64 kind), .own 200, .d (.str [])]),(200, .row 74 5 (y.2.map ay))]⟩:=fun hb st hw=>by
    rw[if_pos hb]at hc;exact⟨(k+1,acc),⟨hlt,by(show acc.length<=k+1;omega),hc⟩,by(show ps.length-(k+1)<ps.length-k;omega),hw⟩
   (refine ae (fun h=>?_) (fun h=>?_) <;> (rw[h];conv=>whnf))
   . exact skip (by rw[h];rfl) _ (aj.keep ⟨⟨rfl,rfl⟩,⟨rfl,rfl⟩,⟨rfl,rfl⟩,⟨rfl,rfl⟩,⟨rfl,rfl⟩,⟨rfl,rfl⟩,⟨aq (by omega),rfl⟩,trivial⟩ ⟨⟨rfl,rfl⟩,⟨rfl,rfl⟩,⟨rfl,rfl⟩,⟨rfl,rfl⟩,trivial⟩)
   have hp0:=h;refine⟨by omega,by omega,by(rw[ao];omega),?_⟩
   conv=>whnf
   rw[Gx]
   (refine⟨_,_,Dn (ps.take k) p (by(rw[List.length_take];omega)),?_⟩;conv=>whnf)
   (refine ae (fun h=>?_) (fun h=>?_) <;> (rw[h];conv=>whnf))
   . exact skip (by rw[h,aN]) _ (aj.keep ⟨⟨rfl,rfl⟩,⟨rfl,rfl⟩,⟨rfl,rfl⟩,⟨rfl,rfl⟩,⟨rfl,rfl⟩,⟨rfl,rfl⟩,⟨aq (by omega),rfl⟩,trivial⟩ ⟨⟨rfl,rfl⟩,⟨rfl,rfl⟩,⟨rfl,rfl⟩,⟨rfl,rfl⟩,trivial⟩)
   have hge:0<=p:=by simp at hp0;omega
   have hplt:=hp p (ar hpk);obtain⟨s,hsp⟩:∃s,v.sets[p.toNat]? =some s:=⟨_,ah (by omega)⟩
   have hsm:=hs s (ar hsp);rw[if_neg (by rw[hp0,h];simp),hsp]at hc;refine⟨hge,ay s,by(rw[aV,hsp];rfl),?_⟩
   conv=>whnf
   (refine⟨_,_,Bf _ (by simpa using hsm.1),?_⟩;conv=>whnf)
   (refine⟨_,_,Bg _ (by simpa using hsm.2),?_⟩;conv=>whnf)
   refine⟨by(show(acc.map ay).length+1<=_;rw[ao];omega),by(show((acc.map ay).length+1)*80<=_;rw[ao];omega),?_⟩
   conv=>whnf
   refine⟨(k+1,acc++[s]),⟨hlt,by(simp;omega),by(rw[<- hc];simp)⟩,by(show ps.length-(k+1)<ps.length-k;omega),aj.keep ⟨⟨rfl,rfl⟩,⟨rfl,rfl⟩,⟨rfl,rfl⟩,⟨rfl,rfl⟩,⟨rfl,rfl⟩,⟨rfl,rfl⟩,⟨aq (by omega),rfl⟩,trivial⟩ ⟨⟨rfl,rfl⟩,⟨rfl,rfl⟩,⟨rfl,rfl⟩,⟨by(show some (Blk.row _ _ (_++_))=some (Blk.row _ _ _);rw[List.map_append];rfl),rfl⟩,trivial⟩⟩
 . obtain rfl:k=ps.length:=by simp at h1;omega
   rw[List.drop_length,cn,List.append_nil]at hc;refine⟨[200],_,_,rfl,?_,rfl,rfl⟩;rw[<- hc];rfl
end Go.Proofs.YtjapjahfllomkaaGreatDoor
namespace NP
open NQ Go
end NP
namespace Go.Proofs.YtjapjahfllomkaaGreatDoor
open NQ Go NP Go.RowKit
theorem vC(z:aS)(hv:bE z=true):NQ.Fn cx 65 [.agg (bq z)] (.d (.int .i64 (jl z))) []:=by
 have ho:=bu hv;have hfew:=ho.few;refine aP bf mixed Tryz.func65 (by kernel_rfl) rfl (ai rfl) ?_;conv=>whnf
 obtain⟨k,s,hk,hs,hp⟩:=oo (qX.1 hv).start;have fA:=AH z ⟨z.apex,4⟩ (by omega);rw[hk]at fA;obtain⟨d,hd⟩:=zX (ho.set s (ar hs));have e:jl z=d.n:=by
  unfold jl;rw[NS ho.rising.pw hs hp,hs];simp only[hd]
 (refine⟨(by kernel_rfl:bF _ _=true),?_⟩;conv=>whnf)
 (refine⟨_,_,fA,?_⟩;conv=>whnf)
 refine⟨az k,ay s,aT hs,?_⟩
 conv=>whnf
 refine⟨by decide,cB d,by(show(s.set.data.map cB)[(0:Int).toNat]? =_;simp[hd]),?_⟩
 conv=>whnf
 exact af rfl (by rw[e];rfl)
end Go.Proofs.YtjapjahfllomkaaGreatDoor
