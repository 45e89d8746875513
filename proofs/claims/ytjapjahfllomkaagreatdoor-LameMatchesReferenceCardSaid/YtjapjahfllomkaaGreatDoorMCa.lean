/-
  Merged texts.
-/
import Derived.Test.YtjapjahfllomkaaGreatDoorMVa
import Derived.Deep.RegionLaw
import Derived.Lib.Walk
import Derived.Lib.SlicesDelete
import Derived.Shelf.RegionOpenPlain
import Derived.Lib.AppendZerosOnto
import Derived.Laws.NewBlocks
import Derived.Shelf.Spec.SlicesInsert
set_option linter.all false
set_option maxRecDepth 100000
namespace NP
open NQ Go
def za:Signed:=⟨⟨[],0,0,[]⟩,[]⟩
def Small(s:Signed):Prop:=s.set.data.length<=100000/\s.sigs.length<=100000
def Nl(z:az)(q:aQ):Signed×Bool×Int :=
 if (!bx q|| !aW z)=true then(za,false,1)else if (!bR z.sets q)=true then(za,false,0)else((z.sets[posOf z.sets q]?).getD za,true,0)
theorem uK{l:List Sig}{a:Bs}(h:gk l a=true):l.length<=6:=by
 simp[gk]at h;omega
theorem pj{s:gG}(h:dL s=true):s.data.length<=8:=by
 unfold dL at h;simp only[aC,Bool.not_eq_true',Bool.or_eq_false_iff,Bool.not_eq_false']at h;have:=h.1.1.2;simp[within]at this;omega
theorem rJ{z:az}(h:aW z=true):∀s∈z.sets,Small s:=λs hs=>by
 have ho:=bB h;refine⟨by have:=pj (ho.set s hs);omega,?_⟩;simp only[aW,aC]at h;have hf:=h.2.2;simp only[nP,ax]at hf;obtain⟨i,hi,rfl⟩:=List.getElem_of_mem hs;have:=hf i (List.mem_range.2 hi);simp only[lU,ah hi]at this;have:=uK this;omega
end NP
namespace Go.Proofs.YtjapjahfllomkaaGreatDoor
open NQ Go NP Go.RowKit
theorem Cl(rows:List (List D))(hl:rows.length<=100000):NQ.Fn cx 165 [.slice 3 rows] (.d (.slice 3 rows)) []:=by
 refine aB aP mixed Tryz.func165 (by kernel_rfl) rfl (ai rfl) ?_;conv=>whnf
 refine⟨λh=>?_,?_⟩
 . refine af rfl ?_;rw[List.isEmpty_iff.1 h];rfl
 . conv=>whnf
   refine⟨by(show 0+rows.length<=_;omega),by(show(0+rows.length)*32<=_;omega),?_⟩
   conv=>whnf
   exact af rfl rfl
theorem Cm(rows:List (List D))(hl:rows.length<=100000):NQ.Fn cx 166 [.slice 6 rows] (.d (.slice 6 rows)) []:=by
 refine aB aP mixed Tryz.func166 (by kernel_rfl) rfl (ai rfl) ?_;conv=>whnf
 refine⟨λh=>?_,?_⟩
 . refine af rfl ?_;rw[List.isEmpty_iff.1 h];rfl
 . conv=>whnf
   refine⟨by(show 0+rows.length<=_;omega),by(show(0+rows.length)*56<=_;omega),?_⟩
   conv=>whnf
   exact af rfl rfl
end Go.Proofs.YtjapjahfllomkaaGreatDoor
namespace NP
open NQ Go
def qOf(s:Signed):aQ:=⟨s.set.name,s.set.type⟩
def P8(l:List Signed)(i:Nat)(s:Signed):List Signed:=l.take i++[s]++l.drop i
def PM(l:List Signed)(s:Signed):List Signed:=if bR l (qOf s)=true then l.set (posOf l (qOf s)) s else P8 l (posOf l (qOf s)) s
end NP
namespace Go.Proofs.YtjapjahfllomkaaGreatDoor
open NQ Go NP Go.RowKit
end Go.Proofs.YtjapjahfllomkaaGreatDoor
namespace NP
open NQ Go
theorem zM{s:Bs}(h:ao s=true):(aT s).length<=8:=by
 have:=oI h;simp[okL]at this;exact this.1
theorem kO{s:Bs}(h:ao s=true):s≠[]:=by rintro rfl;revert h;decide
theorem Ah{z:az}{i:Nat}{s:Signed}(h:z.sets[i]? =some s)(ho:Ordered z):(cZ z)[i]? =some (spec (bK z) s.set.name):=by
 rw[<- tW ho,tV ho,aL,h];rfl
theorem Lp{z:az}(hv:aW z=true){s:Signed}(hs:s∈z.sets):kg s (spec (bK z) s.set.name)=false:=by
 have ho:=bB hv;obtain⟨i,hi⟩:=cE hs;simp only[aW,aC]at hv;have hc:=hv.2.1.1.2;simp only[nL,ax]at hc;have:=hc i (List.mem_range.2 (av.1 hi).1);simp only[cutAt,hi,Ah hi ho]at this;simpa using this
theorem mj(apex c:Bs):∀(l:List Signed),c∈cB apex l ↔ ∃s∈l,dt apex s=true/\s.set.name=c
 |[]=>by simp[cB]
 |s::t=>by
  have ih:=mj apex c t;unfold cB;split
  . rename_i h;rw[List.mem_cons,ih];constructor
    . rintro(rfl|⟨x,hx,k⟩)
      . exact⟨s,List.mem_cons_self .., h,rfl⟩
      . exact⟨x,aK _ hx,k⟩
    . rintro⟨x,hx,k1,k2⟩;rcases List.mem_cons.1 hx with rfl|hx
      . exact .inl k2.symm
      . exact .inr ⟨x,hx,k1,k2⟩
  . rename_i h;rw[ih];constructor
    . rintro⟨x,hx,k⟩;exact⟨x,aK _ hx,k⟩
    . rintro⟨x,hx,k1,k2⟩;rcases List.mem_cons.1 hx with rfl|hx
      . exact absurd k1 h
      . exact⟨x,hx,k1,k2⟩
theorem KF{s:Bs}(h:ao s=true):(s==[])=false:=by have:=kO h;simpa using this
theorem Cw{z:az}(hv:aW z=true){c:Bs}(hc:c∈cB z.apex z.sets):c∈bK z:=by
 have ho:=bB hv;obtain⟨hA,ha,hcov⟩:=k9 ho;obtain⟨s,hs,hcut,rfl⟩:=(mj _ _ _).1 hc;obtain⟨g,hg,hu⟩:=hcov _ hc;have hsp:=mv hA ha hg hu;have hr:=Lp hv hs;rw[hsp]at hr;have ht:s.set.type=2:=by simp[dt]at hcut;exact hcut.1
 unfold kg at hr;rw[if_neg (by rw[KF (o8 ho hg)];exact Bool.false_ne_true)]at hr;split at hr
 . rename_i e;rw[<- beq_iff_eq.1 e];exact hg
 . rw[ht]at hr;cases hr
theorem FK{z:az}{n:Bs}(hne:n≠z.apex):bR z.sets ⟨n,2⟩=true ↔ n∈cB z.apex z.sets:=by
 rw[mj];simp only[bR,List.any_eq_true,is,aC,beq_iff_eq,dt,Bool.not_eq_true',beq_eq_false_iff_ne];constructor
 . rintro⟨s,hs,h1,h2⟩;exact⟨s,hs,⟨h2,by rw[h1];exact hne⟩,h1⟩
 . rintro⟨s,hs,⟨h1,_⟩,h2⟩;exact⟨s,hs,h2,h1⟩
theorem nW{a b c:Bs}(h:aF a b=true)(k:aF b c=true):aF a c=true:=by
 rw[dK]at *; exact k.trans h
theorem pr{a b:Bs}(h:aF a b=true)(k:aF b a=true):a=b:=by
 rw[dK]at *;exact sn ((k.eq_of_length (Nat.le_antisymm k.length_le h.length_le)))
theorem mU{n c:Bs}(hn:ao n=true)(h:aF n c=true)(hne:n≠c):aF (bu n) c=true:=(iP hn h hne).2.1
theorem mL{n:Bs}(hn:ao n=true):aF n (bu n)=true:=by
 unfold aF;rw[wo hn];exact List.isSuffixOf_iff_suffix.2 (List.tail_suffix _)
theorem sB{z:az}:∀{f:Nat} {n c:Bs},ao n=true->lS z f n=some c->c∈cB z.apex z.sets/\aF n c=true
 |0,n,c,_,h=>by simp[lS]at h
 |f+1,n,c,hv,h=>by
  unfold lS at h;split at h
  . cases h
  . rename_i hne;split at h
    . rename_i hh;cases h;exact⟨(FK hne).1 hh,gN n⟩
    . obtain⟨h1,h2⟩:=sB (dR hv) h;exact⟨h1,nW (mL hv) h2⟩
theorem yb{z:az}(ho:Ordered z):∀{f:Nat} {n:Bs},ao n=true->aF n z.apex=true->f=(aT n).length+1->lS z f n=none-> ∀c∈cB z.apex z.sets,aF n c=false
 |0,n,_,_,hf,_=>by omega
 |f+1,n,hv,hu,hf,h=>by
  intro c hc;obtain⟨s,hs,hcut,hnm⟩:=(mj _ _ _).1 hc;have hca:aF c z.apex=true:=by
   have:=ho.under s hs;unfold bG at this;rw[if_pos ⟨ho.name s hs,ho.apex⟩]at this;rw[<- hnm];exact this
  have hne' :c≠z.apex:=by simp[dt]at hcut;rw[<- hnm];exact hcut.2
  unfold lS at h;split at h
  . rename_i e;cases hun:aF n c with
    |false=>rfl
    |true=>rw[e]at hun;exact absurd (pr hca hun) hne'
  . rename_i hne;split at h
    . cases h
    . rename_i hh;obtain⟨_,k2,k3⟩:=iP hv hu hne;have ih:=yb ho (dR hv) k2 (by omega) h c hc;cases hun:aF n c with
      |false=>rfl
      |true =>
       by_cases e:n=c
       . subst e;exact absurd ((FK hne).2 hc) hh
       . rw[mU hv hun e]at ih;cases ih
theorem Jd{z:az}(hv:aW z=true){n:Bs}(hn:ao n=true)(hu:aF n z.apex=true) :
 (ri z n=none/\spec (bK z) n=[])\/ ∃c,ri z n=some c/\spec (bK z) n=c/\c∈bK z/\c≠[]:=by
 have ho:=bB hv;obtain⟨hA,ha,_⟩:=k9 ho;cases h:ri z n with
 |none=>exact .inl ⟨rfl,qM λc hc=>yb ho hn hu rfl h c (pP hc)⟩
 |some c =>
  obtain⟨h1,h2⟩:=sB hn h;have h3:=Cw hv h1;exact .inr ⟨c,rfl,mv hA ha h3 h2,h3,kO (o8 ho h3)⟩
theorem Km{z:az}(ho:Ordered z){s:Signed}(hs:s∈z.sets):aF s.set.name z.apex=true:=by
 have:=ho.under s hs;unfold bG at this;rw[if_pos ⟨ho.name s hs,ho.apex⟩]at this;exact this
theorem yS{z:az}(h:aW z=true):dX z=(gC z,0):=by unfold dX;rw[h];rfl
theorem Cu(p:Bs×Int):cpl p p=0:=(iZ.zero _ _).2 rfl
theorem oi{a b:Bs×Int}(h:cpl a b<0):a≠b:=λe=>by subst e;rw[Cu]at h;omega
abbrev RP(l:List Signed):Prop:=l.Pairwise λa b=>cpl a.place b.place<0
theorem dG.pw:∀{l:List Signed},dG l->RP l
 |[],_=>List.Pairwise.nil
 |x::t,h=>List.Pairwise.cons (mr h) h.tail.pw
theorem RP.uniq:∀{l:List Signed},RP l-> ∀{a b:Signed},a∈l->b∈l->a.place=b.place->a=b
 |[],_,_,_,ha,_,_=>by cases ha
 |x::l,h,a,b,ha,hb,e=>by
  obtain⟨h1,h2⟩:=List.pairwise_cons.1 h;rcases List.mem_cons.1 ha with ha' |ha' <;> rcases List.mem_cons.1 hb with hb' |hb'
  . rw[ha',hb']
  . subst ha';exact(oi (h1 b hb') e).elim
  . subst hb';exact(oi (h1 a ha') e.symm).elim
  . exact RP.uniq h2 ha' hb' e
theorem nv{l:List Signed}{q:aQ}:bR l q=true ↔ ∃s∈l,s.place=q.place:=by
 simp only[bR,List.any_eq_true,iD]
def ins(s:Signed):List Signed->List Signed
 |[]=>[s]
 |x::l=>if cpl x.place s.place<0 then x::ins s l else if x.place=s.place then s::l else s::x::l
def rem(q:aQ)(l:List Signed):List Signed:=l.filter λx=> !is q x
theorem A9{s:gG}(h:dL s=true):1<=s.type/\s.type<=8:=by
 unfold dL at h;simp only[aC,Bool.not_eq_true',Bool.or_eq_false_iff,Bool.not_eq_false']at h;have:=h.1.1.1.1.2;simp[within]at this;exact this
theorem Ak{z:az}(ho:Ordered z):aliases z=true ↔ ∀s∈z.sets,∀x∈z.sets,s.set.type=3->x.set.name=s.set.name->x.set.type=3\/x.set.type=8:=by
 unfold aliases;rw[ax];constructor
 . intro h s hs x hx h3 hn;obtain⟨i,hi⟩:=cE hs;obtain⟨j,hj⟩:=cE hx;have hil:=(av.1 hi).1;have hjl:=(av.1 hj).1;obtain⟨p,hp⟩:∃p,z.sets[i-1]? =some p:=⟨_,ah (by omega)⟩
   have hok:=h i (List.mem_range.2 hil);refine Decidable.byContradiction λhno=>?_
   have hne3:x.set.type≠3:=λe=>hno (.inl e)
   have hne8:x.set.type≠8:=λe=>hno (.inr e)
   have hbad:mz z i=false:=by
    refine(nh hi hp).2 ⟨h3,?_⟩;rcases Nat.lt_trichotomy j i with hlt|heq|hgt
    . left
      refine⟨by omega,?_⟩;rcases Nat.lt_or_eq_of_le (show j<=i-1 by omega)with k|k
      . have a1:=(jw (gn ho.rising k hj hp)).1;have a2:=(jw (gn ho.rising (show i-1<i by omega) hp hi)).1;rw[hn]at a1;exact(Gw a1 a2).symm
      . rw[<- k,hj]at hp;cases hp;exact hn
    . subst heq;rw[hi]at hj;cases hj;exact absurd h3 hne3
    . right
      rcases Nat.lt_or_eq_of_le (show i+1<=j by omega)with k|k
      . obtain⟨y,hy⟩:∃y,z.sets[i+1]? =some y:=⟨_,ah (by omega)⟩
        have a1:=jw (gn ho.rising k hy hj);have a2:=(jw (gn ho.rising (show i<i+1 by omega) hi hy)).1;have hyn:y.set.name=s.set.name:=by
         have:=a1.1;rw[hn]at this;exact Gw this a2
        refine⟨y,hy,hyn,?_⟩;have:=a1.2 (hyn.trans hn.symm);have:=(A9 (ho.set x hx)).2;omega
      . exact⟨x,by rw[k];exact hj,hn,hne8⟩
   rw[hbad]at hok;cases hok
 . intro h i hi;have hil:=List.mem_range.1 hi;obtain⟨s,hs⟩:∃s,z.sets[i]? =some s:=⟨_,ah hil⟩
   obtain⟨p,hp⟩:∃p,z.sets[i-1]? =some p:=⟨_,ah (by omega)⟩
   cases hb:mz z i with
   |true=>rfl
   |false =>
    obtain⟨h3,k⟩:=(nh hs hp).1 hb;have hsm:=ar hs;rcases k with ⟨k1,k2⟩|⟨x,k1,k2,k3⟩
    . have:=(jw (gn ho.rising (show i-1<i by omega) hp hs)).2 k2;rcases h s hsm p (ar hp) h3 k2 with e|e <;> omega
    . have:=(jw (gn ho.rising (show i<i+1 by omega) hs k1)).2 k2.symm;rcases h s hsm x (ar k1) h3 k2 with e|e
      . omega
      . exact absurd e k3
theorem lX{α:Type}{l:List α}{p:Nat->Bool}{q:α->Bool}(h:∀i s,l[i]? =some s->p i=q s):(List.range l.length).all p=true ↔ ∀s∈l,q s=true:=by
 rw[ax];constructor
 . intro k s hs;obtain⟨i,hi⟩:=cE hs;rw[<- h i s hi];exact k i (List.mem_range.2 (av.1 hi).1)
 . intro k i hi;have hi:=List.mem_range.1 hi;rw[h i _ (ah hi)];exact k _ (List.getElem_mem hi)
theorem Ordered.bool{z:az}(h:Ordered z):ordered z=true:=by
 unfold ordered;have hall:(List.range z.sets.length).all (qF z)=true:=by
  rw[ax];intro i hi;have hi:=List.mem_range.1 hi;obtain⟨s,hs⟩:∃s,z.sets[i]? =some s:=⟨_,ah hi⟩
  obtain⟨p,hp⟩:∃p,z.sets[i-1]? =some p:=⟨_,ah (by omega)⟩
  have hsm:=ar hs;have hpm:=ar hp;rw[qc hs hp,lN,h.set s hsm,h.under s hsm,sy _ _ (h.name p hpm) (h.name s hsm)];by_cases h0:i=0
  . subst h0;rfl
  . have:=gn h.rising (show i-1<i by omega) hp hs;have e:cpl (p.set.name,p.set.type) (s.set.name,s.set.type)<0:=this;have e2:¬cpl (p.set.name,p.set.type) (s.set.name,s.set.type)>=0:=by omega
    simp[e2]
 have hf:¬((z.sets.length:Int)>20000):=by have:=h.few;omega
 rw[hall,h.apex,h.tame];simp[hf]
structure Val(z:az):Prop where
 ord:Ordered z
 start:bR z.sets ⟨z.apex,4⟩=true
 serv:bR z.sets ⟨z.apex,2⟩=true
 fit:∀s∈z.sets,fits s.set.type (s.set.name==z.apex)=true
 ali:∀s∈z.sets,∀x∈z.sets,s.set.type=3->x.set.name=s.set.name->x.set.type=3\/x.set.type=8
 cut:∀s∈z.sets,kg s (spec (bK z) s.set.name)=false
 sig:∀s∈z.sets,mP s (spec (bK z) s.set.name)=false
 form:∀s∈z.sets,gk s.sigs z.apex=true
theorem FH(z:az):(List.range z.sets.length).all (jr z)=true ↔ ∀s∈z.sets,fits s.set.type (s.set.name==z.apex)=true :=
 lX λi s h=>by unfold jr;rw[h]
theorem CN(z:az):nP z=true ↔ ∀s∈z.sets,gk s.sigs z.apex=true :=
 lX λi s h=>by unfold lU;rw[h]
theorem Au{z:az}(ho:Ordered z):nL z (cZ z)=true ↔ ∀s∈z.sets,kg s (spec (bK z) s.set.name)=false:=by
 unfold nL;rw[lX (q:=λs=> !kg s (spec (bK z) s.set.name)) λi s h=>by unfold cutAt;rw[Ah h ho,h]];simp only[Bool.not_eq_true']
theorem Bb{z:az}(ho:Ordered z):pn z (cZ z)=true ↔ ∀s∈z.sets,mP s (spec (bK z) s.set.name)=false:=by
 unfold pn;rw[lX (q:=λs=> !mP s (spec (bK z) s.set.name)) λi s h=>by unfold pk;rw[Ah h ho,h]];simp only[Bool.not_eq_true']
theorem dw{z:az}:aW z=true ↔ Val z:=by
 constructor
 . intro h;have ho:=bB h;unfold aW iA at h;simp only[aC]at h;obtain⟨⟨_,⟨⟨a1,a2⟩,a3⟩⟩,⟨⟨b1,b2⟩,b3⟩,b4⟩:=h;exact⟨ho,a1,a2,(FH z).1 a3,(Ak ho).1 b1,(Au ho).1 b2,(Bb ho).1 b3,(CN z).1 b4⟩
 . intro h;unfold aW iA;dsimp only;rw[h.ord.bool,h.start,h.serv,(FH z).2 h.fit,(Ak h.ord).2 h.ali,(Au h.ord).2 h.cut,(Bb h.ord).2 h.sig,(CN z).2 h.form];rfl
theorem Ij{z:az}(ho:Ordered z)(n:Bs):(spec (bK z) n=[]/\ ∀c∈cB z.apex z.sets,aF n c=false) \/
 (spec (bK z) n∈cB z.apex z.sets/\aF n (spec (bK z) n)=true/\ ∀c∈cB z.apex z.sets,aF n c=true->aF c (spec (bK z) n)=true):=by
 obtain⟨hA,ha,hg⟩:=k9 ho;by_cases he:∃h∈bK z,aF n h=true
 . obtain⟨h,hm,hu⟩:=he;have e:=mv hA ha hm hu;rw[e];refine .inr ⟨pP hm,hu,λc hc hn=>?_⟩;obtain⟨g,hgm,hgu⟩:=hg c hc;have e2:=mv hA ha hgm (nW hn hgu);rw[<- e,e2];exact hgu
 . have hno:∀h∈bK z,aF n h=false:=λh hm=>by
    cases hu:aF n h with
    |false=>rfl
    |true=>exact(he ⟨h,hm,hu⟩).elim
   refine .inl ⟨qM hno,λc hc=>?_⟩;cases hu:aF n c with
   |false=>rfl
   |true =>
    obtain⟨g,hgm,hgu⟩:=hg c hc;exact(he ⟨g,hgm,nW hu hgu⟩).elim
theorem Je{z:az}(ho:Ordered z){c:Bs}(h:c∈cB z.apex z.sets):c≠[]/\c≠z.apex/\ao c=true/\aF c z.apex=true/\bR z.sets ⟨c,2⟩=true:=by
 obtain⟨s,hs,h1,h2⟩:=(mj _ _ _).1 h;subst h2;unfold dt at h1;simp only[aC,beq_iff_eq,Bool.not_eq_true',beq_eq_false_iff_ne]at h1;exact⟨kO (ho.name s hs),h1.2,ho.name s hs,Km ho hs,nv.2 ⟨s,hs,by show(s.set.name,s.set.type)=_;rw[h1.1];rfl⟩⟩
theorem Mv{s:Signed}(h:dL s.set=true):bx (qOf s)=true:=by
 have h1:=jB h;have h2:=A9 h;unfold bx qOf;simp only[h1,dF,aC,decide_eq_true_eq];exact⟨h2.1,h2.2⟩
theorem lZ{z:az}(hv:aW z=true){s:Signed}(hs:s∈z.sets):Nl z (qOf s)=(s,true,0):=by
 have ho:=bB hv;have hh:bR z.sets (qOf s)=true:=nv.2 ⟨s,hs,rfl⟩;obtain⟨x,hx,hm,hp⟩:=xi ho (q:=qOf s) (ho.name s hs) hh;have e:=ho.rising.pw.uniq hm hs hp;subst e;unfold Nl;rw[if_neg (by simp[Mv (ho.set _ hs),hv]),if_neg (by simp[hh]),hx];rfl
theorem M1{z:az}(hv:aW z=true){c n:Bs}(hc:c∈cB z.apex z.sets)(hu:aF n c=true):spec (bK z) n=c:=by
 obtain⟨hA,ha,_⟩:=k9 (bB hv);exact mv hA ha (Cw hv hc) hu
theorem nJ{l:List Signed}{q:aQ}(h:bR l q=true):∃(k:Nat) (s:Signed),atI l q=k/\l[k]? =some s/\s.place=q.place:=by
 unfold atI;cases hf:l.findIdx? (is q)with
 |none =>
  rw[List.findIdx?_eq_none_iff]at hf;unfold bR at h;rw[List.any_eq_true]at h;obtain⟨s,hs,e⟩:=h;rw[hf s hs]at e;cases e
 |some k =>
  obtain⟨h1,h2,_⟩:=List.findIdx?_eq_some_iff_getElem.1 hf;exact⟨k,l[k],rfl,ah h1,(iD q _).1 h2⟩
theorem Pb{l:List Signed}(hl:RP l){q:aQ}{k:Nat}{s:Signed}(hk:l[k]? =some s)(hp:s.place=q.place):posOf l q=k:=by
 unfold posOf;have h1:l=l.take k++s::l.drop (k+1):=by
  obtain⟨hlt,e⟩:=av.1 hk
  conv=>lhs;rw[<- List.take_append_drop k l,List.drop_eq_getElem_cons hlt,e]
 have hlt:k<l.length:=(av.1 hk).1;have h2:∀x∈l.take k,decide (cpl x.place q.place<0)=true:=λx hx=>by
  have hl' :=hl;rw[h1]at hl';have:=(List.pairwise_append.1 hl').2.2 x hx s (List.mem_cons_self ..);rw[<- hp];simpa using this
 conv=>lhs;rw[h1]
 rw[List.takeWhile_append_of_pos h2,List.takeWhile_cons,if_neg (by rw[hp,Cu];simp)];simp;omega
def bo(z:az)(n:Bs):Bs:=((cB z.apex z.sets).find? λc=>aF n c).getD []
theorem Ln{z:az}(hv:aW z=true)(n:Bs):bo z n=spec (bK z) n:=by
 unfold bo;cases hf:(cB z.apex z.sets).find? λc=>aF n c with
 |none =>
  rw[List.find?_eq_none]at hf;rcases Ij (bB hv) n with ⟨e,_⟩|⟨e1,e2,_⟩
  . rw[e];rfl
  . exact absurd e2 (hf _ e1)
 |some c =>
  have h1:=List.find?_some hf;have h2:=List.mem_of_find?_eq_some hf;rw[M1 hv h2 h1];rfl
theorem zt{z:az}{n:Bs}(hv:aW z=true)(hn:ao n=true)(hu:aF n z.apex=true):eh z n=(bo z n, !(bo z n==[]),0):=by
 have ha:=(bB hv).apex;have hu' :(bG n z.apex).1=true:=by unfold bG;rw[if_pos ⟨hn,ha⟩];exact hu
 rw[Ln hv];unfold eh;rw[if_neg (by simp[hv,hn]),if_neg (by simp[hu'])];rcases Jd hv hn hu with ⟨e1,e2⟩|⟨c,e1,e2,_,e3⟩
 . rw[e1,e2];rfl
 . rw[e1,e2];have:(c==[])=false:=by simpa using e3
   rw[this];rfl
def ref(o:Bool)(s:Signed):Bool:=o||(s.set.type==2)
def mark(s:Signed)(o:Bool):Bs:=if ref o s=true then[]else s.set.name++[0]
end NP
namespace Go.Proofs.YtjapjahfllomkaaGreatDoor
open NQ Go NP Go.RowKit
theorem A3(q:aQ):NQ.Fn cx 141 [.agg (cL q)] (.d (.bool (bx q))) []:=by
 refine aB aP mixed Tryz.func141 (by kernel_rfl) rfl (ai rfl) ?_;conv=>whnf
 (refine⟨_,_,mg q.name,?_⟩;conv=>whnf)
 (refine ae (λh=>?_) (λh=>?_) <;> (rw[h];conv=>whnf))
 . have h1:=h
   (refine ae (λh=>?_) (λh=>?_) <;> (rw[h];conv=>whnf))
   . refine af rfl ?_;show AV.d (D.bool _)=_;simp only[bx, *, if_true,if_false,aD]
   . refine af rfl ?_;show AV.d (D.bool _)=_;simp only[bx, *, if_true,if_false,aD]
 . refine af rfl ?_;show AV.d (D.bool _)=_;simp only[bx, *, if_true,if_false,aD]
theorem A4(z:az)(hn:z.sets.length<=100000):NQ.Fn cx 115 [.agg (aM z)] (.d (.bool (aW z))) []:=by
 have:=KE z hn
 rwa [M3]at this
theorem Cv(z:az)(n:Bs)(hn:z.sets.length<=100000)(hv:∀s∈z.sets,ao s.set.name=true)(hs:ao n=true):NQ.Fn cx 118 [.agg (aM z),.str n] (.d (.str (bo z n))) []:=by
 refine aB aP mixed Tryz.func118 (by kernel_rfl) rfl (ai rfl) ?_;conv=>whnf
 (refine⟨_,_,FF z hn,?_⟩;conv=>whnf)
 obtain⟨l,hl0⟩:∃l,l=cB z.apex z.sets:=⟨_,rfl⟩
 have hln:l.length<=100000:=by rw[hl0];exact Nat.le_trans (mB _ _) hn
 have hvl:∀c∈l,ao c=true:=λc hc=>by
  rw[hl0]at hc;obtain⟨s,hs,e⟩:=kj _ _ _ hc;rw[<- e];exact hv s hs
 unfold bo;rw[<- hl0];refine⟨Nat,λk=>⟨[(1,.d (.str n)),(5,.d (.slice 1 (l.map aJ))),(6,.d (.int .i64 k))],[]⟩,λk=>k<=l.length/\(l.drop k).find? (λc=>aF n c)=l.find? (λc=>aF n c),λk=>l.length-k,
  ⟨0,⟨by omega,rfl⟩,ag.keep ⟨ab,ab,ab,trivial⟩ trivial⟩,λk ⟨hk,hf⟩=>?_⟩
 conv=>whnf
 refine ae (λh1=>?_) (λh1=>?_) <;> (rw[h1];conv=>whnf)
 . have hlt:k<l.length:=by simp at h1;omega
   obtain⟨c,hc⟩:∃s,l[k]? =some s:=⟨_,ah hlt⟩
   rw[drop_cons hc,List.find?_cons]at hf;refine⟨au k,aJ c,aA hc,?_⟩
   conv=>whnf
   (refine⟨_,_,lH n c (bz hs) (bz (hvl c (ar hc))),?_⟩;conv=>whnf)
   (refine ae (λh=>?_) (λh=>?_) <;> (rw[h];conv=>whnf))
   . refine⟨au k,aJ c,aA hc,?_⟩
     conv=>whnf
     refine af rfl ?_;rw[h]at hf;rw[<- hf];rfl
   . rw[h]at hf;exact⟨k+1,⟨hlt,hf⟩,by(show l.length-(k+1)<l.length-k;omega),ag.keep ⟨ab,ab,⟨ak (by omega),rfl⟩,trivial⟩ trivial⟩
 . obtain rfl:k=l.length:=by simp at h1;omega
   refine af rfl ?_;rw[List.drop_length]at hf;rw[<- hf];rfl
end Go.Proofs.YtjapjahfllomkaaGreatDoor
namespace NP
open NQ Go
structure View where
 apex:Bs
 sets:List Signed
 q:aQ
 cut:Bs
 behind:Bool
 cO:Bs
def jL:Nat->List Signed->List (List D×D)
 |_,[]=>[]
 |i,s::t=>(cL (qOf s),.int .i64 i)::jL (i+1) t
def de(v:View):List D:=[.str v.apex,.slice 5 (v.sets.map an),.kmap (jL 0 v.sets),.str v.q.name,.int .i64 v.q.type,.str v.cut,.bool v.behind,.str v.cO]
theorem Oi(q:aQ)(s:Signed):cA [.str,.int .i64] ((cL q).map .d) ((cL (qOf s)).map .d)=some (is q s):=by
 show some ((q.name==s.set.name)&&((q.type==s.set.type)&&true))=_
 rw[gU];unfold is
 congr 1
 rw[Bool.beq_comm (a:=q.name),Bool.beq_comm (a:=q.type)]
theorem zL(q:aQ):∀(l:List Signed) (i:Nat),kB [.str,.int .i64] (cL q) (jL i l)=some ((l.findIdx? (is q)).map λk=>D.int .i64 ((i+k:Nat):Int))
 |[],i=>rfl
 |s::t,i=>by
  rw[jL,kB,Oi];cases h:is q s with
  |true=>simp[List.findIdx?_cons,h]
  |false =>
   simp only;rw[zL q t (i+1),List.findIdx?_cons,h];simp only[cr,if_false];cases t.findIdx? (is q) <;> simp;omega
def oQ(l:List Signed)(n:Bs):Nat:=(l.takeWhile λs=>decide (aH s.set.name n<0)).length
theorem OJ(l:List Signed)(n:Bs):oQ l n<=l.length:=(List.takeWhile_sublist _).length_le
theorem s5{n:Bs}:∀{l:List Signed},l.Pairwise (λa b=>aH a.set.name b.set.name<=0)-> ∀{i:Nat} {s:Signed},l[i]? =some s->(oQ l n<=i ↔ 0<=aH s.set.name n)
 |[],_,i,s,h=>by cases h
 |x::l,hp,i,s,h=>by
  obtain⟨h1,h2⟩:=List.pairwise_cons.1 hp;unfold oQ;rw[List.takeWhile_cons];by_cases hx:aH x.set.name n<0
  . rw[if_pos (by simpa using hx),List.length_cons];cases i with
    |zero=>cases h;exact⟨λh=>by omega,λh=>by omega⟩
    |succ i =>
     have:=s5 (n:=n) h2 (i:=i) (s:=s) (by simpa using h);unfold oQ at this;omega
  . rw[if_neg (by simpa using hx),List.length_nil];refine⟨λ_=>?_,λ_=>Nat.zero_le _⟩;cases i with
    |zero=>cases h;omega
    |succ i =>
     have hm:s∈l:=ar (i:=i) (by simpa using h);have h3:=h1 s hm;by_cases h4:aH s.set.name n<0
     . exact absurd (bl.P9 h3 h4) hx
     . omega
def exB(l:List Signed)(n:Bs):Bool:=match l[oQ l n]? with|some s=>(bG s.set.name n).1|none=>false
end NP
namespace Go.Proofs.YtjapjahfllomkaaGreatDoor
open NQ Go NP Go.RowKit
theorem wu(a b:Bs):NQ.Fn cx 299 [.str a,.str b] (.d (.int .i64 (cC a b).1)) []:=by
 refine aB aP mixed Tryz.func299 (by kernel_rfl) rfl (ai rfl) ?_;conv=>whnf
 (refine⟨_,_,oV a b,?_⟩;conv=>whnf)
 exact af rfl rfl
theorem AM(a b:Bs):NQ.Fn cx 257 [.str a,.str b] (.d (.bool (bG a b).1)) []:=by
 refine aB aP mixed Tryz.func257 (by kernel_rfl) rfl (ai rfl) ?_;conv=>whnf
 (refine⟨_,_,si a b,?_⟩;conv=>whnf)
 exact af rfl rfl
theorem H9(n c:Nat)(x y:D)(hn:n<=100000)(hc:c<=n)(hf:∀i:Nat,i<n->NQ.Fn cx 298 [.int .i64 i,x,y] (.d (.bool (decide (c<=i)))) []) :
 NQ.Fn cx 297 [.int .i64 n,.fn 298 [] [x,y]] (.d (.int .i64 c)) []:=by
 refine aB aP mixed Tryz.func297 (by kernel_rfl) rfl (ai rfl) ?_;conv=>whnf
 refine⟨Nat×Nat,λz=>⟨[(1,.d (.fn 298 [] [x,y])),(5,.d (.int .i64 z.1)),(6,.d (.int .i64 z.2))],[]⟩,λz=>z.1<=c/\c<=z.2/\z.2<=n,λz=>z.2-z.1,
  ⟨(0,n),⟨Nat.zero_le _,hc,Nat.le_refl _⟩,ag.keep ⟨ab,ab,ab,trivial⟩ trivial⟩,?_⟩
 rintro⟨i,j⟩ ⟨h1,h2,h3⟩;simp only at h1 h2 h3
 conv=>whnf
 refine ae (λhlt=>?_) (λhlt=>?_) <;> (rw[hlt];conv=>whnf)
 . have hij:i<j:=by simp at hlt;omega
   rw[Di (by omega)]
   (refine⟨_,_,hf ((i+j) / 2) (by omega),?_⟩;conv=>whnf)
   refine ae (λh=>?_) (λh=>?_) <;> (rw[h];conv=>whnf)
   . have hlt:(i+j) / 2<c:=by simp at h;omega
     exact⟨((i+j) / 2+1,j),⟨hlt,h2,h3⟩,by(show j-((i+j) / 2+1)<j-i;omega),ag.keep ⟨ab,⟨ak (by omega),rfl⟩,ab,trivial⟩ trivial⟩
   . have hle:c<=(i+j) / 2:=by simp at h;omega
     exact⟨(i,(i+j) / 2),⟨h1,hle,by(show(i+j) / 2<=n;omega)⟩,by(show(i+j) / 2-i<j-i;omega),ag.keep ⟨ab,ab,ab,trivial⟩ trivial⟩
 . obtain rfl:i=c:=by simp at hlt;omega
   exact af rfl rfl
theorem Ia(n c:Nat)(x y:D)(hn:n<=100000)(hc:c<=n)(hf:∀i:Nat,i<n->NQ.Fn cx 314 [.int .i64 i,x,y] (.d (.bool (decide (c<=i)))) []) :
 NQ.Fn cx 297 [.int .i64 n,.fn 314 [] [x,y]] (.d (.int .i64 c)) []:=by
 refine aB aP mixed Tryz.func297 (by kernel_rfl) rfl (ai rfl) ?_;conv=>whnf
 refine⟨Nat×Nat,λz=>⟨[(1,.d (.fn 314 [] [x,y])),(5,.d (.int .i64 z.1)),(6,.d (.int .i64 z.2))],[]⟩,λz=>z.1<=c/\c<=z.2/\z.2<=n,λz=>z.2-z.1,
  ⟨(0,n),⟨Nat.zero_le _,hc,Nat.le_refl _⟩,ag.keep ⟨ab,ab,ab,trivial⟩ trivial⟩,?_⟩
 rintro⟨i,j⟩ ⟨h1,h2,h3⟩;simp only at h1 h2 h3
 conv=>whnf
 refine ae (λhlt=>?_) (λhlt=>?_) <;> (rw[hlt];conv=>whnf)
 . have hij:i<j:=by simp at hlt;omega
   rw[Di (by omega)]
   (refine⟨_,_,hf ((i+j) / 2) (by omega),?_⟩;conv=>whnf)
   refine ae (λh=>?_) (λh=>?_) <;> (rw[h];conv=>whnf)
   . have hlt:(i+j) / 2<c:=by simp at h;omega
     exact⟨((i+j) / 2+1,j),⟨hlt,h2,h3⟩,by(show j-((i+j) / 2+1)<j-i;omega),ag.keep ⟨ab,⟨ak (by omega),rfl⟩,ab,trivial⟩ trivial⟩
   . have hle:c<=(i+j) / 2:=by simp at h;omega
     exact⟨(i,(i+j) / 2),⟨h1,hle,by(show(i+j) / 2<=n;omega)⟩,by(show(i+j) / 2-i<j-i;omega),ag.keep ⟨ab,ab,ab,trivial⟩ trivial⟩
 . obtain rfl:i=c:=by simp at hlt;omega
   exact af rfl rfl
theorem jv(v:View)(n:Bs)(t:Int):NQ.Fn cx 256 [.ptr (de v),.str n,.int .i64 t] (.d (.int .i64 (atI v.sets ⟨n,t⟩))) []:=by
 refine aB aP mixed Tryz.func256 (by kernel_rfl) rfl (ai rfl) ?_;conv=>whnf
 have hk:=zL ⟨n,t⟩ v.sets 0;unfold atI;cases hf:v.sets.findIdx? (is ⟨n,t⟩)with
 |some k =>
  rw[hf]at hk;refine⟨some (.int .i64 k),by rw[Option.map_some,Nat.zero_add]at hk;exact hk,?_⟩
  conv=>whnf
  exact af rfl rfl
 |none =>
  rw[hf]at hk;refine⟨none,hk,?_⟩
  conv=>whnf
  exact af rfl rfl
theorem tr(v:View):NQ.Fn cx 260 [.ptr (de v)] (.d (.int .i64 (atI v.sets ⟨v.apex,4⟩))) []:=by
 refine aB aP mixed Tryz.func260 (by kernel_rfl) rfl (ai rfl) ?_;conv=>whnf
 (refine⟨_,_,jv v v.apex 4,?_⟩;conv=>whnf)
 exact af rfl rfl
theorem GP(v:View)(n:Bs)(i:Nat)(s:Signed)(hs:v.sets[i]? =some s):NQ.Fn cx 298 [.int .i64 i,.ptr [.ptr (de v)],.ptr [.str n]] (.d (.bool (decide ((cC s.set.name n).1>=0)))) []:=by
 refine aB aP mixed Tryz.func298 (by kernel_rfl) rfl (ai rfl) ?_;conv=>whnf
 (refine⟨(by kernel_rfl:bc _ _=true),?_⟩;conv=>whnf)
 refine⟨au i,an s,aA hs,?_⟩
 conv=>whnf
 (refine⟨_,_,wu s.set.name n,?_⟩;conv=>whnf)
 exact af rfl rfl
theorem uw(v:View)(n:Bs)(hn:v.sets.length<=100000)(hr:dG v.sets)(hv:∀s∈v.sets,ao s.set.name=true)(hvn:ao n=true):NQ.Fn cx 259 [.ptr (de v),.str n] (.d (.bool (exB v.sets n))) []:=by
 refine aB aP mixed Tryz.func259 (by kernel_rfl) rfl (ai rfl) ?_;conv=>whnf
 have hp:=mu hr;have hle:=OJ v.sets n;have hS:=H9 v.sets.length (oQ v.sets n) (.ptr [.ptr (de v)]) (.ptr [.str n]) hn hle (λi hi=>by
  obtain⟨s,hs⟩:∃s,v.sets[i]? =some s:=⟨_,ah hi⟩
  have h:=GP v n i s hs;have e:decide ((cC s.set.name n).1>=0)=decide (oQ v.sets n<=i):=by
   have hc:(cC s.set.name n).1=aH s.set.name n:=by unfold cC;rw[if_pos ⟨hv s (ar hs),hvn⟩]
   rw[hc,decide_eq_decide];exact(s5 hp hs).symm
  rwa [e]at h)
 have hl:((v.sets.map an).length:Int)=(v.sets.length:Int):=by rw[aj]
 rw[hl];refine⟨_,hS,rfl,?_⟩
 conv=>whnf
 (refine⟨(by kernel_rfl:bc _ _=true),?_⟩;conv=>whnf)
 rw[hl];unfold exB;cases hg:v.sets[oQ v.sets n]? with
 |none =>
  have:decide (((oQ v.sets n:Nat):Int)<(v.sets.length:Int))=false:=by
   rw[List.getElem?_eq_none_iff]at hg;rw[decide_eq_false];omega
  rw[this]
  conv=>whnf
  exact af rfl rfl
 |some s =>
  have:decide (((oQ v.sets n:Nat):Int)<(v.sets.length:Int))=true:=by
   have:=(av.1 hg).1;rw[decide_eq_true];omega
  rw[this]
  conv=>whnf
  refine⟨au _,an s,aA hg,?_⟩
  conv=>whnf
  (refine⟨_,_,AM s.set.name n,?_⟩;conv=>whnf)
  exact af rfl rfl
theorem LU(l:List Int)(x:Int)(hl:l.length<=100000):NQ.Fn cx 312 [.slice 1 (l.map bg),.int .i64 x] (.d (.int .i64 (match l.findIdx? (· ==x)with|some k=>(k:Int)|none=> -1))) []:=by
 refine aB aP mixed Tryz.func312 (by kernel_rfl) rfl (ai rfl) ?_;conv=>whnf
 refine⟨Nat,λk=>⟨[(0,.d (.slice 1 (l.map bg))),(1,.d (.int .i64 x)),(7,.d (.int .i64 ((l.map bg).length:Int))),(8,.d (.int .i64 k))],[]⟩,λk=>k<=l.length/\ ∀j y,j<k->l[j]? =some y->(y==x)=false,λk=>l.length-k,
  ⟨0,⟨by omega,λj y h=>by omega⟩,ag.keep ⟨ab,ab,ab,ab,trivial⟩ trivial⟩,λk ⟨hk,hall⟩=>?_⟩
 conv=>whnf
 refine ae (λh1=>?_) (λh1=>?_) <;> (rw[h1];conv=>whnf)
 . have hlt:k<l.length:=by simp at h1;omega
   obtain⟨y,hy⟩:∃s,l[k]? =some s:=⟨_,ah hlt⟩
   refine⟨au k,bg y,aA hy,?_⟩
   conv=>whnf
   (refine ae (λh=>?_) (λh=>?_) <;> (rw[h];conv=>whnf))
   . refine af rfl ?_;have:l.findIdx? (· ==x)=some k:=by
      rw[List.findIdx?_eq_some_iff_getElem];refine⟨hlt,?_,λj hj=>?_⟩
      . obtain⟨_,e⟩:=av.1 hy;rw[e];simp at h ⊢;exact h.symm
      . have:=hall j l[j] hj (ah (by omega));simpa using this
     rw[this];rfl
   . refine⟨k+1,⟨hlt,λj z hj hz=>?_⟩,by(show l.length-(k+1)<l.length-k;omega),ag.keep ⟨ab,ab,ab,⟨ak (by omega),rfl⟩,trivial⟩ trivial⟩;rcases Nat.lt_or_eq_of_le (Nat.le_of_lt_succ hj)with h2|rfl
     . exact hall j z h2 hz
     . rw[hy]at hz;cases hz;simp at h ⊢;exact λe=>h e.symm
 . obtain rfl:k=l.length:=by simp at h1;omega
   refine af rfl ?_;have:l.findIdx? (· ==x)=none:=by
    rw[List.findIdx?_eq_none_iff];intro y hy;obtain⟨j,hj⟩:=cE hy;exact hall j y (av.1 hj).1 hj
   rw[this];rfl
theorem Eu(l:List Int)(x:Int)(hl:l.length<=100000):NQ.Fn cx 296 [.slice 1 (l.map bg),.int .i64 x] (.d (.bool (l.contains x))) []:=by
 refine aB aP mixed Tryz.func296 (by kernel_rfl) rfl (ai rfl) ?_;conv=>whnf
 (refine⟨_,_,LU l x hl,?_⟩;conv=>whnf)
 refine af rfl ?_;show AV.d (D.bool (decide ((match l.findIdx? (· ==x)with|some k=>(k:Int)|none=> -1)>=0)))=_
 congr 2
 cases h:l.findIdx? (· ==x)with
 |some k =>
  obtain⟨h1,h2,_⟩:=List.findIdx?_eq_some_iff_getElem.1 h;have:l.contains x=true:=by
   rw[cq];have e:l[k]=x:=by simpa using h2
   exact e ▸ List.getElem_mem h1
  rw[this,decide_eq_true];exact au k
 |none =>
  have:l.contains x=false:=by
   rw[<- Bool.not_eq_true,cq];intro hm;have:=List.findIdx?_eq_none_iff.1 h x hm;simp at this
  rw[this];rfl
end Go.Proofs.YtjapjahfllomkaaGreatDoor
namespace NP
open NQ Go
structure Ans where
 kind:Int
 sets:List Signed
 cut:Bs
 deriving DecidableEq
def ee(a:Ans):List D:=[.int .i64 a.kind,.slice 5 (a.sets.map an),.str a.cut]
def cd(l:List Signed):List Int->List Int->List Signed
 |_,[]=>[]
 |seen,p::t=>if (decide (p<0)||seen.contains p)=true then cd l (seen++[p]) t else(l[p.toNat]?).getD za::cd l (seen++[p]) t
end NP
namespace Go.Proofs.YtjapjahfllomkaaGreatDoor
open NQ Go NP Go.RowKit
theorem H7(l:List Int)(k:Nat):((l.map bg).drop ((0:Nat):Int).toNat).take (((k:Nat):Int).toNat-((0:Nat):Int).toNat)=(l.take k).map bg:=by
 simp[List.map_take]
theorem iz(v:View)(kind:Int)(ps:List Int)(hn:ps.length<=1000)(hp:∀p∈ps,p<v.sets.length)(hs:∀s∈v.sets,Small s) :
 FnB cx 258 (de v) [.int .i64 kind,.slice 1 (ps.map bg)] (.agg ((ee ⟨kind,cd v.sets [] ps,[]⟩).map .d)) (de v):=by
 refine gJ (λ_=>[]) aP mixed Tryz.func258 (by kernel_rfl) rfl (ai rfl) (ai rfl) ?_;conv=>whnf
 refine ⟨Nat × List Signed, fun x => ⟨[(0, .ptr 100000 0), (2, .d (.slice 1 (ps.map bg))), (6, .ptr 6 0), (7, .ptr 7 0), (13, .d (.slice 1 (ps.map bg))), (14, .d (.int .i64 ((ps.map bg).length : Int))), (15, .d (.int .i64 x.1))],
     [(100000,.box ((de v).map .d)),(6,.box [.d (.int .i64 0),.nil 5,.d (.str [])]),(7,.box [.d (.int .i64 kind),.own 200,.d (.str [])]),(200,.row 74 5 (x.2.map an))]⟩,
  λx=>x.1<=ps.length/\x.2.length<=x.1/\x.2++cd v.sets (ps.take x.1) (ps.drop x.1)=cd v.sets [] ps,λx=>ps.length-x.1,
  ⟨(0,[]),⟨by omega,by simp,by simp⟩,(ag.s6 7 1 200 5 [.d (.int .i64 kind),.nil 5,.d (.str [])] 74 5 rfl rfl rfl (by decide)).trans (ag.keep ⟨ab,ab,ab,ab,ab,ab,ab,trivial⟩ ⟨ab,ab,ab,ab,trivial⟩)⟩,?_⟩
 rintro⟨k,acc⟩ ⟨hk,hl,hc⟩;simp only at hk hl hc
 conv=>whnf
 refine ae (λh1=>?_) (λh1=>?_) <;> (rw[h1];conv=>whnf)
 . have hlt:k<ps.length:=by simp at h1;omega
   obtain⟨p,hpk⟩:∃p,ps[k]? =some p:=⟨_,ah hlt⟩
   rw[drop_cons hpk,cd, <- aV hpk]at hc;refine⟨au k,bg p,aA hpk,?_⟩
   conv=>whnf
   have skip:(decide (p<0)||(ps.take k).contains p)=true-> ∀st,ag cx st ⟨[(0,.ptr 100000 0),(2,.d (.slice 1 (ps.map bg))),(6,.ptr 6 0),(7,.ptr 7 0),(13,.d (.slice 1 (ps.map bg))),(14,.d (.int .i64 ((ps.map bg).length:Int))),(15,.d (.int .i64 ((k+1:Nat):Int)))],
    [(100000,.box ((de v).map .d)),(6,.box [.d (.int .i64 0),.nil 5,.d (.str [])]),(7,.box [.d (.int .i64 kind),.own 200,.d (.str [])]),(200,.row 74 5 (acc.map an))]⟩ ->
    ∃y:Nat×List Signed,(y.1<=ps.length/\y.2.length<=y.1/\y.2++cd v.sets (ps.take y.1) (ps.drop y.1)=cd v.sets [] ps)/\ps.length-y.1<ps.length-k/\ag cx st ⟨[(0,.ptr 100000 0),(2,.d (.slice 1 (ps.map bg))),(6,.ptr 6 0),(7,.ptr 7 0),(13,.d (.slice 1 (ps.map bg))),(14,.d (.int .i64 ((ps.map bg).length:Int))),(15,.d (.int .i64 y.1))],
    [(100000,.box ((de v).map .d)),(6,.box [.d (.int .i64 0),.nil 5,.d (.str [])]),(7,.box [.d (.int .i64 kind),.own 200,.d (.str [])]),(200,.row 74 5 (y.2.map an))]⟩:=λhb st hw=>by
    rw[if_pos hb]at hc;exact⟨(k+1,acc),⟨hlt,by(show acc.length<=k+1;omega),hc⟩,by(show ps.length-(k+1)<ps.length-k;omega),hw⟩
   (refine ae (λh=>?_) (λh=>?_) <;> (rw[h];conv=>whnf))
   . exact skip (by rw[h];rfl) _ (ag.keep ⟨ab,ab,ab,ab,ab,ab,⟨ak (by omega),rfl⟩,trivial⟩ ⟨ab,ab,ab,ab,trivial⟩)
   have hp0:=h;refine⟨by omega,by omega,by(rw[aj];omega),?_⟩
   conv=>whnf
   rw[H7]
   (refine⟨_,_,Eu (ps.take k) p (by(rw[List.length_take];omega)),?_⟩;conv=>whnf)
   (refine ae (λh=>?_) (λh=>?_) <;> (rw[h];conv=>whnf))
   . exact skip (by rw[h,Bu]) _ (ag.keep ⟨ab,ab,ab,ab,ab,ab,⟨ak (by omega),rfl⟩,trivial⟩ ⟨ab,ab,ab,ab,trivial⟩)
   have hge:0<=p:=by simp at hp0;omega
   have hplt:=hp p (ar hpk);obtain⟨s,hsp⟩:∃s,v.sets[p.toNat]? =some s:=⟨_,ah (by omega)⟩
   have hsm:=hs s (ar hsp);rw[if_neg (by rw[hp0,h];simp),hsp]at hc;refine⟨hge,an s,by(rw[aL,hsp];rfl),?_⟩
   conv=>whnf
   (refine⟨_,_,Cl _ (by simpa using hsm.1),?_⟩;conv=>whnf)
   (refine⟨_,_,Cm _ (by simpa using hsm.2),?_⟩;conv=>whnf)
   refine⟨by(show(acc.map an).length+1<=_;rw[aj];omega),by(show((acc.map an).length+1)*80<=_;rw[aj];omega),?_⟩
   conv=>whnf
   refine⟨(k+1,acc++[s]),⟨hlt,by(simp;omega),by(rw[<- hc];simp)⟩,by(show ps.length-(k+1)<ps.length-k;omega),ag.keep ⟨ab,ab,ab,ab,ab,ab,⟨ak (by omega),rfl⟩,trivial⟩ ⟨ab,ab,ab,⟨by(show some (Blk.row _ _ (_++_))=some (Blk.row _ _ _);rw[List.map_append];rfl),rfl⟩,trivial⟩⟩
 . obtain rfl:k=ps.length:=by simp at h1;omega
   rw[List.drop_length,cd,List.append_nil]at hc;refine⟨[200],_,_,rfl,?_,rfl,rfl⟩;rw[<- hc];rfl
end Go.Proofs.YtjapjahfllomkaaGreatDoor
namespace NP
open NQ Go
end NP
namespace Go.Proofs.YtjapjahfllomkaaGreatDoor
open NQ Go NP Go.RowKit
theorem wG(z:az)(hv:aW z=true):NQ.Fn cx 65 [.agg (aM z)] (.d (.int .i64 (gC z))) []:=by
 have ho:=bB hv;have hfew:=ho.few;refine aB aP mixed Tryz.func65 (by kernel_rfl) rfl (ai rfl) ?_;conv=>whnf
 obtain⟨k,s,hk,hs,hp⟩:=nJ (dw.1 hv).start;have fA:=vu z ⟨z.apex,4⟩ (by omega);rw[hk]at fA;obtain⟨d,hd⟩:=qI (ho.set s (ar hs));have e:gC z=d.n:=by
  unfold gC;rw[Pb ho.rising.pw hs hp,hs];simp only[hd]
 (refine⟨(by kernel_rfl:bc _ _=true),?_⟩;conv=>whnf)
 (refine⟨_,_,fA,?_⟩;conv=>whnf)
 refine⟨au k,an s,aA hs,?_⟩
 conv=>whnf
 refine⟨by decide,bd d,by(show(s.set.data.map bd)[(0:Int).toNat]? =_;simp[hd]),?_⟩
 conv=>whnf
 exact af rfl (by rw[e];rfl)
end Go.Proofs.YtjapjahfllomkaaGreatDoor
