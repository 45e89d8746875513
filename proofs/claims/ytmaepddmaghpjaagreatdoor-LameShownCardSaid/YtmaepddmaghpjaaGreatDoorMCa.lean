/-
  Merged texts.
-/
import Derived.Test.YtmaepddmaghpjaaGreatDoorMVa
import Derived.Deep.RegionLaw
import Derived.Lib.Walk
import Derived.Lib.SlicesDelete
import Derived.Shelf.RegionOpenPlain
import Derived.Lib.AppendZerosOnto
import Derived.Laws.NewBlocks
import Derived.Shelf.Spec.SlicesInsert
set_option linter.all false
set_option maxRecDepth 100000
namespace NP
open NQ Go
def oq:Signed:=⟨⟨[],0,0,[]⟩,[]⟩
def Small(s:Signed):Prop:=s.set.data.length<=100000/\s.sigs.length<=100000
def iw(z:aF)(q:aR):Signed×Bool×Int :=
 if (!bK q|| !aW z)=true then(oq,false,1)else if (!cJ z.sets q)=true then(oq,false,0)else((z.sets[posOf z.sets q]?).getD oq,true,0)
theorem uP{l:List Sig}{a:Bs}(h:fM l a=true):l.length<=6:=by
 simp[fM]at h;omega
theorem tr{s:gx}(h:dL s=true):s.data.length<=8:=by
 unfold dL at h;simp only[ay,Bool.not_eq_true',Bool.or_eq_false_iff,Bool.not_eq_false']at h;have:=h.1.1.2;simp[within]at this;omega
theorem nJ{z:aF}(h:aW z=true):∀s∈z.sets,Small s:=λs hs=>by
 have ho:=bA h;refine⟨by have:=tr (ho.set s hs);omega,?_⟩;simp only[aW,ay]at h;have hf:=h.2.2;simp only[nC,av]at hf;obtain⟨i,hi,rfl⟩:=List.getElem_of_mem hs;have:=hf i (List.mem_range.2 hi);simp only[lE,ah hi]at this;have:=uP this;omega
end NP
namespace Go.Proofs.YtmaepddmaghpjaaGreatDoor
open NQ Go NP Go.RowKit
theorem ue(rows:List (List D))(hl:rows.length<=100000):NQ.Fn cx 91 [.slice 3 rows] (.d (.slice 3 rows)) []:=by
 refine aA aO mixed Tryz.func91 (by kernel_rfl) rfl (ag rfl) ?_;conv=>whnf
 refine⟨λh=>?_,?_⟩
 . refine af rfl ?_;rw[List.isEmpty_iff.1 h];rfl
 . conv=>whnf
   refine⟨by(show 0+rows.length<=_;omega),by(show(0+rows.length)*32<=_;omega),?_⟩
   conv=>whnf
   exact af rfl rfl
theorem uf(rows:List (List D))(hl:rows.length<=100000):NQ.Fn cx 92 [.slice 6 rows] (.d (.slice 6 rows)) []:=by
 refine aA aO mixed Tryz.func92 (by kernel_rfl) rfl (ag rfl) ?_;conv=>whnf
 refine⟨λh=>?_,?_⟩
 . refine af rfl ?_;rw[List.isEmpty_iff.1 h];rfl
 . conv=>whnf
   refine⟨by(show 0+rows.length<=_;omega),by(show(0+rows.length)*56<=_;omega),?_⟩
   conv=>whnf
   exact af rfl rfl
theorem NH(s:Signed)(h1:s.set.data.length<=100000)(h2:s.sigs.length<=100000):NQ.Fn cx 41 [.agg (ax s)] (.agg ((ax s).map .d)) []:=by
 refine aA aO mixed Tryz.func41 (by kernel_rfl) rfl (ag rfl) ?_;conv=>whnf
 (refine⟨_,_,ue _ (by simpa using h1),?_⟩;conv=>whnf)
 (refine⟨_,_,uf _ (by simpa using h2),?_⟩;conv=>whnf)
 exact af rfl rfl
theorem Fm(z:aF)(q:aR):NQ.Fn cx 9 [.agg (aT z),.agg (cL q)] (.tuple [.agg ((ax (iw z q).1).map .d),.d (.bool (iw z q).2.1),.d (.int .i64 (iw z q).2.2)]) []:=by
 refine aA aO mixed Tryz.func9 (by kernel_rfl) rfl (ag rfl) ?_;conv=>whnf
 (refine⟨_,_,Mg q,?_⟩;conv=>whnf)
 have bad:(!bK q|| !aW z)=true->iw z q=(oq,false,1):=λh=>by rw[iw,if_pos h]
 (refine ae (λh=>?_) (λh=>?_) <;> (rw[h];conv=>whnf))
 . refine af rfl ?_;rw[bad (by simp[h])];rfl
 have hq0:=h
 (refine⟨_,_,qN z,?_⟩;conv=>whnf)
 (refine ae (λh=>?_) (λh=>?_) <;> (rw[h];conv=>whnf))
 . refine af rfl ?_;rw[bad (by simp[h])];rfl
 have hq:bK q=true:=by simpa using hq0
 have hv:aW z=true:=by simpa using h
 have hqn:aq q.name=true:=by simp[bK]at hq;exact hq.1.1
 have ho:=bA hv
 (refine⟨_,_,vH ho q hqn,?_⟩;conv=>whnf)
 (refine ae (λh=>?_) (λh=>?_) <;> (rw[h];conv=>whnf))
 . refine af rfl ?_;rw[iw,if_neg (by simp[hq,hv]),if_pos (by assumption)];rfl
 have hh:=h;obtain⟨s,hs,hm,_⟩:=sI ho hqn (by simpa using hh);refine⟨aw _,ax s,aG hs,?_⟩
 conv=>whnf
 have hsm:=nJ hv s hm
 (refine⟨_,_,NH s hsm.1 hsm.2,?_⟩;conv=>whnf)
 refine af rfl ?_;rw[iw,if_neg (by simp[hq,hv]),if_neg (by simpa using hh),hs];rfl
end Go.Proofs.YtmaepddmaghpjaaGreatDoor
namespace NP
open NQ Go
def qOf(s:Signed):aR:=⟨s.set.name,s.set.type⟩
def Th(l:List Signed)(i:Nat)(s:Signed):List Signed:=l.take i++[s]++l.drop i
def SI(l:List Signed)(s:Signed):List Signed:=if cJ l (qOf s)=true then l.set (posOf l (qOf s)) s else Th l (posOf l (qOf s)) s
end NP
namespace Go.Proofs.YtmaepddmaghpjaaGreatDoor
open NQ Go NP Go.RowKit
end Go.Proofs.YtmaepddmaghpjaaGreatDoor
namespace NP
open NQ Go
theorem GZ{s:Bs}(h:aq s=true):(bc s).length<=8:=by
 have:=oh h;simp[okL]at this;exact this.1
theorem qc{s:Bs}(h:aq s=true):s≠[]:=by rintro rfl;revert h;decide
theorem AQ{z:aF}{i:Nat}{s:Signed}(h:z.sets[i]? =some s)(ho:Ordered z):(cO z)[i]? =some (spec (bD z) s.set.name):=by
 rw[<- tY ho,tX ho,aM,h];rfl
theorem NS{z:aF}(hv:aW z=true){s:Signed}(hs:s∈z.sets):jW s (spec (bD z) s.set.name)=false:=by
 have ho:=bA hv;obtain⟨i,hi⟩:=cj hs;simp only[aW,ay]at hv;have hc:=hv.2.1.1.2;simp only[ny,av]at hc;have:=hc i (List.mem_range.2 (ar.1 hi).1);simp only[cutAt,hi,AQ hi ho]at this;simpa using this
theorem jX(apex c:Bs):∀(l:List Signed),c∈cq apex l ↔ ∃s∈l,db apex s=true/\s.set.name=c
 |[]=>by simp[cq]
 |s::t=>by
  have ih:=jX apex c t;unfold cq;split
  . rename_i h;rw[List.mem_cons,ih];constructor
    . rintro(rfl|⟨x,hx,k⟩)
      . exact⟨s,List.mem_cons_self .., h,rfl⟩
      . exact⟨x,aK _ hx,k⟩
    . rintro⟨x,hx,k1,k2⟩;rcases List.mem_cons.1 hx with rfl|hx
      . exact .inl k2.symm
      . exact .inr ⟨x,hx,k1,k2⟩
  . rename_i h;rw[ih];constructor
    . rintro⟨x,hx,k⟩;exact⟨x,aK _ hx,k⟩
    . rintro⟨x,hx,k1,k2⟩;rcases List.mem_cons.1 hx with rfl|hx
      . exact absurd k1 h
      . exact⟨x,hx,k1,k2⟩
theorem MQ{s:Bs}(h:aq s=true):(s==[])=false:=by have:=qc h;simpa using this
theorem Dj{z:aF}(hv:aW z=true){c:Bs}(hc:c∈cq z.apex z.sets):c∈bD z:=by
 have ho:=bA hv;obtain⟨hA,ha,hcov⟩:=kP ho;obtain⟨s,hs,hcut,rfl⟩:=(jX _ _ _).1 hc;obtain⟨g,hg,hu⟩:=hcov _ hc;have hsp:=lZ hA ha hg hu;have hr:=NS hv hs;rw[hsp]at hr;have ht:s.set.type=2:=by simp[db]at hcut;exact hcut.1
 unfold jW at hr;rw[if_neg (by rw[MQ (oK ho hg)];exact Bool.false_ne_true)]at hr;split at hr
 . rename_i e;rw[<- beq_iff_eq.1 e];exact hg
 . rw[ht]at hr;cases hr
theorem GS{z:aF}{n:Bs}(hne:n≠z.apex):cJ z.sets ⟨n,2⟩=true ↔ n∈cq z.apex z.sets:=by
 rw[jX];simp only[cJ,List.any_eq_true,is,ay,beq_iff_eq,db,Bool.not_eq_true',beq_eq_false_iff_ne];constructor
 . rintro⟨s,hs,h1,h2⟩;exact⟨s,hs,⟨h2,by rw[h1];exact hne⟩,h1⟩
 . rintro⟨s,hs,⟨h1,_⟩,h2⟩;exact⟨s,hs,h2,h1⟩
theorem nI{a b c:Bs}(h:aD a b=true)(k:aD b c=true):aD a c=true:=by
 rw[dy]at *; exact k.trans h
theorem mL{a b:Bs}(h:aD a b=true)(k:aD b a=true):a=b:=by
 rw[dy]at *;exact sq ((k.eq_of_length (Nat.le_antisymm k.length_le h.length_le)))
theorem mM{n c:Bs}(hn:aq n=true)(h:aD n c=true)(hne:n≠c):aD (bu n) c=true:=(kD hn h hne).2.1
theorem mE{n:Bs}(hn:aq n=true):aD n (bu n)=true:=by
 unfold aD;rw[wD hn];exact List.isSuffixOf_iff_suffix.2 (List.tail_suffix _)
theorem sA{z:aF}:∀{f:Nat} {n c:Bs},aq n=true->lC z f n=some c->c∈cq z.apex z.sets/\aD n c=true
 |0,n,c,_,h=>by simp[lC]at h
 |f+1,n,c,hv,h=>by
  unfold lC at h;split at h
  . cases h
  . rename_i hne;split at h
    . rename_i hh;cases h;exact⟨(GS hne).1 hh,fI n⟩
    . obtain⟨h1,h2⟩:=sA (fO hv) h;exact⟨h1,nI (mE hv) h2⟩
theorem yD{z:aF}(ho:Ordered z):∀{f:Nat} {n:Bs},aq n=true->aD n z.apex=true->f=(bc n).length+1->lC z f n=none-> ∀c∈cq z.apex z.sets,aD n c=false
 |0,n,_,_,hf,_=>by omega
 |f+1,n,hv,hu,hf,h=>by
  intro c hc;obtain⟨s,hs,hcut,hnm⟩:=(jX _ _ _).1 hc;have hca:aD c z.apex=true:=by
   have:=ho.under s hs;unfold bq at this;rw[if_pos ⟨ho.name s hs,ho.apex⟩]at this;rw[<- hnm];exact this
  have hne' :c≠z.apex:=by simp[db]at hcut;rw[<- hnm];exact hcut.2
  unfold lC at h;split at h
  . rename_i e;cases hun:aD n c with
    |false=>rfl
    |true=>rw[e]at hun;exact absurd (mL hca hun) hne'
  . rename_i hne;split at h
    . cases h
    . rename_i hh;obtain⟨_,k2,k3⟩:=kD hv hu hne;have ih:=yD ho (fO hv) k2 (by omega) h c hc;cases hun:aD n c with
      |false=>rfl
      |true =>
       by_cases e:n=c
       . subst e;exact absurd ((GS hne).2 hc) hh
       . rw[mM hv hun e]at ih;cases ih
theorem KZ{z:aF}(hv:aW z=true){n:Bs}(hn:aq n=true)(hu:aD n z.apex=true) :
 (qZ z n=none/\spec (bD z) n=[])\/ ∃c,qZ z n=some c/\spec (bD z) n=c/\c∈bD z/\c≠[]:=by
 have ho:=bA hv;obtain⟨hA,ha,_⟩:=kP ho;cases h:qZ z n with
 |none=>exact .inl ⟨rfl,qG λc hc=>yD ho hn hu rfl h c (pE hc)⟩
 |some c =>
  obtain⟨h1,h2⟩:=sA hn h;have h3:=Dj hv h1;exact .inr ⟨c,rfl,lZ hA ha h3 h2,h3,qc (oK ho h3)⟩
theorem Ms{z:aF}(ho:Ordered z){s:Signed}(hs:s∈z.sets):aD s.set.name z.apex=true:=by
 have:=ho.under s hs;unfold bq at this;rw[if_pos ⟨ho.name s hs,ho.apex⟩]at this;exact this
theorem zo{z:aF}(h:aW z=true):dV z=(gj z,0):=by unfold dV;rw[h];rfl
theorem Di(p:Bs×Int):cpl p p=0:=(iO.zero _ _).2 rfl
theorem uj{a b:Bs×Int}(h:cpl a b<0):a≠b:=λe=>by subst e;rw[Di]at h;omega
abbrev RP(l:List Signed):Prop:=l.Pairwise λa b=>cpl a.place b.place<0
theorem dX.pw:∀{l:List Signed},dX l->RP l
 |[],_=>List.Pairwise.nil
 |x::t,h=>List.Pairwise.cons (lX h) h.tail.pw
theorem RP.uniq:∀{l:List Signed},RP l-> ∀{a b:Signed},a∈l->b∈l->a.place=b.place->a=b
 |[],_,_,_,ha,_,_=>by cases ha
 |x::l,h,a,b,ha,hb,e=>by
  obtain⟨h1,h2⟩:=List.pairwise_cons.1 h;rcases List.mem_cons.1 ha with ha' |ha' <;> rcases List.mem_cons.1 hb with hb' |hb'
  . rw[ha',hb']
  . subst ha';exact(uj (h1 b hb') e).elim
  . subst hb';exact(uj (h1 a ha') e.symm).elim
  . exact RP.uniq h2 ha' hb' e
theorem rR{l:List Signed}{q:aR}:cJ l q=true ↔ ∃s∈l,s.place=q.place:=by
 simp only[cJ,List.any_eq_true,lu]
def rem(q:aR)(l:List Signed):List Signed:=l.filter λx=> !is q x
theorem BG{s:gx}(h:dL s=true):1<=s.type/\s.type<=8:=by
 unfold dL at h;simp only[ay,Bool.not_eq_true',Bool.or_eq_false_iff,Bool.not_eq_false']at h;have:=h.1.1.1.1.2;simp[within]at this;exact this
theorem AS{z:aF}(ho:Ordered z):aliases z=true ↔ ∀s∈z.sets,∀x∈z.sets,s.set.type=3->x.set.name=s.set.name->x.set.type=3\/x.set.type=8:=by
 unfold aliases;rw[av];constructor
 . intro h s hs x hx h3 hn;obtain⟨i,hi⟩:=cj hs;obtain⟨j,hj⟩:=cj hx;have hil:=(ar.1 hi).1;have hjl:=(ar.1 hj).1;obtain⟨p,hp⟩:∃p,z.sets[i-1]? =some p:=⟨_,ah (by omega)⟩
   have hok:=h i (List.mem_range.2 hil);refine Decidable.byContradiction λhno=>?_
   have hne3:x.set.type≠3:=λe=>hno (.inl e)
   have hne8:x.set.type≠8:=λe=>hno (.inr e)
   have hbad:mi z i=false:=by
    refine(mU hi hp).2 ⟨h3,?_⟩;rcases Nat.lt_trichotomy j i with hlt|heq|hgt
    . left
      refine⟨by omega,?_⟩;rcases Nat.lt_or_eq_of_le (show j<=i-1 by omega)with k|k
      . have a1:=(jq (fQ ho.rising k hj hp)).1;have a2:=(jq (fQ ho.rising (show i-1<i by omega) hp hi)).1;rw[hn]at a1;exact(Ip a1 a2).symm
      . rw[<- k,hj]at hp;cases hp;exact hn
    . subst heq;rw[hi]at hj;cases hj;exact absurd h3 hne3
    . right
      rcases Nat.lt_or_eq_of_le (show i+1<=j by omega)with k|k
      . obtain⟨y,hy⟩:∃y,z.sets[i+1]? =some y:=⟨_,ah (by omega)⟩
        have a1:=jq (fQ ho.rising k hy hj);have a2:=(jq (fQ ho.rising (show i<i+1 by omega) hi hy)).1;have hyn:y.set.name=s.set.name:=by
         have:=a1.1;rw[hn]at this;exact Ip this a2
        refine⟨y,hy,hyn,?_⟩;have:=a1.2 (hyn.trans hn.symm);have:=(BG (ho.set x hx)).2;omega
      . exact⟨x,by rw[k];exact hj,hn,hne8⟩
   rw[hbad]at hok;cases hok
 . intro h i hi;have hil:=List.mem_range.1 hi;obtain⟨s,hs⟩:∃s,z.sets[i]? =some s:=⟨_,ah hil⟩
   obtain⟨p,hp⟩:∃p,z.sets[i-1]? =some p:=⟨_,ah (by omega)⟩
   cases hb:mi z i with
   |true=>rfl
   |false =>
    obtain⟨h3,k⟩:=(mU hs hp).1 hb;have hsm:=ao hs;rcases k with ⟨k1,k2⟩|⟨x,k1,k2,k3⟩
    . have:=(jq (fQ ho.rising (show i-1<i by omega) hp hs)).2 k2;rcases h s hsm p (ao hp) h3 k2 with e|e <;> omega
    . have:=(jq (fQ ho.rising (show i<i+1 by omega) hs k1)).2 k2.symm;rcases h s hsm x (ao k1) h3 k2 with e|e
      . omega
      . exact absurd e k3
theorem lG{α:Type}{l:List α}{p:Nat->Bool}{q:α->Bool}(h:∀i s,l[i]? =some s->p i=q s):(List.range l.length).all p=true ↔ ∀s∈l,q s=true:=by
 rw[av];constructor
 . intro k s hs;obtain⟨i,hi⟩:=cj hs;rw[<- h i s hi];exact k i (List.mem_range.2 (ar.1 hi).1)
 . intro k i hi;have hi:=List.mem_range.1 hi;rw[h i _ (ah hi)];exact k _ (List.getElem_mem hi)
theorem Ordered.bool{z:aF}(h:Ordered z):ordered z=true:=by
 unfold ordered;have hall:(List.range z.sets.length).all (qx z)=true:=by
  rw[av];intro i hi;have hi:=List.mem_range.1 hi;obtain⟨s,hs⟩:∃s,z.sets[i]? =some s:=⟨_,ah hi⟩
  obtain⟨p,hp⟩:∃p,z.sets[i-1]? =some p:=⟨_,ah (by omega)⟩
  have hsm:=ao hs;have hpm:=ao hp;rw[pP hs hp,lv,h.set s hsm,h.under s hsm,sy _ _ (h.name p hpm) (h.name s hsm)];by_cases h0:i=0
  . subst h0;rfl
  . have:=fQ h.rising (show i-1<i by omega) hp hs;have e:cpl (p.set.name,p.set.type) (s.set.name,s.set.type)<0:=this;have e2:¬cpl (p.set.name,p.set.type) (s.set.name,s.set.type)>=0:=by omega
    simp[e2]
 have hf:¬((z.sets.length:Int)>20000):=by have:=h.few;omega
 rw[hall,h.apex,h.tame];simp[hf]
structure Val(z:aF):Prop where
 ord:Ordered z
 start:cJ z.sets ⟨z.apex,4⟩=true
 serv:cJ z.sets ⟨z.apex,2⟩=true
 fit:∀s∈z.sets,fits s.set.type (s.set.name==z.apex)=true
 ali:∀s∈z.sets,∀x∈z.sets,s.set.type=3->x.set.name=s.set.name->x.set.type=3\/x.set.type=8
 cut:∀s∈z.sets,jW s (spec (bD z) s.set.name)=false
 sig:∀s∈z.sets,mH s (spec (bD z) s.set.name)=false
 form:∀s∈z.sets,fM s.sigs z.apex=true
theorem GP(z:aF):(List.range z.sets.length).all (jl z)=true ↔ ∀s∈z.sets,fits s.set.type (s.set.name==z.apex)=true :=
 lG λi s h=>by unfold jl;rw[h]
theorem DB(z:aF):nC z=true ↔ ∀s∈z.sets,fM s.sigs z.apex=true :=
 lG λi s h=>by unfold lE;rw[h]
theorem Bd{z:aF}(ho:Ordered z):ny z (cO z)=true ↔ ∀s∈z.sets,jW s (spec (bD z) s.set.name)=false:=by
 unfold ny;rw[lG (q:=λs=> !jW s (spec (bD z) s.set.name)) λi s h=>by unfold cutAt;rw[AQ h ho,h]];simp only[Bool.not_eq_true']
theorem BI{z:aF}(ho:Ordered z):oU z (cO z)=true ↔ ∀s∈z.sets,mH s (spec (bD z) s.set.name)=false:=by
 unfold oU;rw[lG (q:=λs=> !mH s (spec (bD z) s.set.name)) λi s h=>by unfold oT;rw[AQ h ho,h]];simp only[Bool.not_eq_true']
theorem dt{z:aF}:aW z=true ↔ Val z:=by
 constructor
 . intro h;have ho:=bA h;unfold aW iu at h;simp only[ay]at h;obtain⟨⟨_,⟨⟨a1,a2⟩,a3⟩⟩,⟨⟨b1,b2⟩,b3⟩,b4⟩:=h;exact⟨ho,a1,a2,(GP z).1 a3,(AS ho).1 b1,(Bd ho).1 b2,(BI ho).1 b3,(DB z).1 b4⟩
 . intro h;unfold aW iu;dsimp only;rw[h.ord.bool,h.start,h.serv,(GP z).2 h.fit,(AS h.ord).2 h.ali,(Bd h.ord).2 h.cut,(BI h.ord).2 h.sig,(DB z).2 h.form];rfl
theorem JY{z:aF}(ho:Ordered z)(n:Bs):(spec (bD z) n=[]/\ ∀c∈cq z.apex z.sets,aD n c=false) \/
 (spec (bD z) n∈cq z.apex z.sets/\aD n (spec (bD z) n)=true/\ ∀c∈cq z.apex z.sets,aD n c=true->aD c (spec (bD z) n)=true):=by
 obtain⟨hA,ha,hg⟩:=kP ho;by_cases he:∃h∈bD z,aD n h=true
 . obtain⟨h,hm,hu⟩:=he;have e:=lZ hA ha hm hu;rw[e];refine .inr ⟨pE hm,hu,λc hc hn=>?_⟩;obtain⟨g,hgm,hgu⟩:=hg c hc;have e2:=lZ hA ha hgm (nI hn hgu);rw[<- e,e2];exact hgu
 . have hno:∀h∈bD z,aD n h=false:=λh hm=>by
    cases hu:aD n h with
    |false=>rfl
    |true=>exact(he ⟨h,hm,hu⟩).elim
   refine .inl ⟨qG hno,λc hc=>?_⟩;cases hu:aD n c with
   |false=>rfl
   |true =>
    obtain⟨g,hgm,hgu⟩:=hg c hc;exact(he ⟨g,hgm,nI hu hgu⟩).elim
theorem Lb{z:aF}(ho:Ordered z){c:Bs}(h:c∈cq z.apex z.sets):c≠[]/\c≠z.apex/\aq c=true/\aD c z.apex=true/\cJ z.sets ⟨c,2⟩=true:=by
 obtain⟨s,hs,h1,h2⟩:=(jX _ _ _).1 h;subst h2;unfold db at h1;simp only[ay,beq_iff_eq,Bool.not_eq_true',beq_eq_false_iff_ne]at h1;exact⟨qc (ho.name s hs),h1.2,ho.name s hs,Ms ho hs,rR.2 ⟨s,hs,by show(s.set.name,s.set.type)=_;rw[h1.1];rfl⟩⟩
theorem Pd{s:Signed}(h:dL s.set=true):bK (qOf s)=true:=by
 have h1:=js h;have h2:=BG h;unfold bK qOf;simp only[h1,du,ay,decide_eq_true_eq];exact⟨h2.1,h2.2⟩
theorem jk{z:aF}(hv:aW z=true){s:Signed}(hs:s∈z.sets):iw z (qOf s)=(s,true,0):=by
 have ho:=bA hv;have hh:cJ z.sets (qOf s)=true:=rR.2 ⟨s,hs,rfl⟩;obtain⟨x,hx,hm,hp⟩:=sI ho (q:=qOf s) (ho.name s hs) hh;have e:=ho.rising.pw.uniq hm hs hp;subst e;unfold iw;rw[if_neg (by simp[Pd (ho.set _ hs),hv]),if_neg (by simp[hh]),hx];rfl
theorem PH{z:aF}(hv:aW z=true){c n:Bs}(hc:c∈cq z.apex z.sets)(hu:aD n c=true):spec (bD z) n=c:=by
 obtain⟨hA,ha,_⟩:=kP (bA hv);exact lZ hA ha (Dj hv hc) hu
theorem yq{l:List Signed}{q:aR}(h:cJ l q=true):∃(k:Nat) (s:Signed),atI l q=k/\l[k]? =some s/\s.place=q.place:=by
 unfold atI;cases hf:l.findIdx? (is q)with
 |none =>
  rw[List.findIdx?_eq_none_iff]at hf;unfold cJ at h;rw[List.any_eq_true]at h;obtain⟨s,hs,e⟩:=h;rw[hf s hs]at e;cases e
 |some k =>
  obtain⟨h1,h2,_⟩:=List.findIdx?_eq_some_iff_getElem.1 hf;exact⟨k,l[k],rfl,ah h1,(lu q _).1 h2⟩
theorem RY{l:List Signed}(hl:RP l){q:aR}{k:Nat}{s:Signed}(hk:l[k]? =some s)(hp:s.place=q.place):posOf l q=k:=by
 unfold posOf;have h1:l=l.take k++s::l.drop (k+1):=by
  obtain⟨hlt,e⟩:=ar.1 hk
  conv=>lhs;rw[<- List.take_append_drop k l,List.drop_eq_getElem_cons hlt,e]
 have hlt:k<l.length:=(ar.1 hk).1;have h2:∀x∈l.take k,decide (cpl x.place q.place<0)=true:=λx hx=>by
  have hl' :=hl;rw[h1]at hl';have:=(List.pairwise_append.1 hl').2.2 x hx s (List.mem_cons_self ..);rw[<- hp];simpa using this
 conv=>lhs;rw[h1]
 rw[List.takeWhile_append_of_pos h2,List.takeWhile_cons,if_neg (by rw[hp,Di];simp)];simp;omega
def bT(z:aF)(n:Bs):Bs:=((cq z.apex z.sets).find? λc=>aD n c).getD []
theorem NN{z:aF}(hv:aW z=true)(n:Bs):bT z n=spec (bD z) n:=by
 unfold bT;cases hf:(cq z.apex z.sets).find? λc=>aD n c with
 |none =>
  rw[List.find?_eq_none]at hf;rcases JY (bA hv) n with ⟨e,_⟩|⟨e1,e2,_⟩
  . rw[e];rfl
  . exact absurd e2 (hf _ e1)
 |some c =>
  have h1:=List.find?_some hf;have h2:=List.mem_of_find?_eq_some hf;rw[PH hv h2 h1];rfl
theorem Ae{z:aF}{n:Bs}(hv:aW z=true)(hn:aq n=true)(hu:aD n z.apex=true):eP z n=(bT z n, !(bT z n==[]),0):=by
 have ha:=(bA hv).apex;have hu' :(bq n z.apex).1=true:=by unfold bq;rw[if_pos ⟨hn,ha⟩];exact hu
 rw[NN hv];unfold eP;rw[if_neg (by simp[hv,hn]),if_neg (by simp[hu'])];rcases KZ hv hn hu with ⟨e1,e2⟩|⟨c,e1,e2,_,e3⟩
 . rw[e1,e2];rfl
 . rw[e1,e2];have:(c==[])=false:=by simpa using e3
   rw[this];rfl
def ref(o:Bool)(s:Signed):Bool:=o||(s.set.type==2)
def mark(s:Signed)(o:Bool):Bs:=if ref o s=true then[]else s.set.name++[0]
end NP
namespace Go.Proofs.YtmaepddmaghpjaaGreatDoor
open NQ Go NP Go.RowKit
theorem Mn(z:aF)(hn:z.sets.length<=100000):NQ.Fn cx 52 [.agg (aT z)] (.d (.bool (aW z))) []:=by
 have:=MP z hn
 rwa [PI]at this
end Go.Proofs.YtmaepddmaghpjaaGreatDoor
namespace NP
open NQ Go
structure View where
 apex:Bs
 sets:List Signed
 q:aR
 cut:Bs
 behind:Bool
 dH:Bs
def jD:Nat->List Signed->List (List D×D)
 |_,[]=>[]
 |i,s::t=>(cL (qOf s),.int .i64 i)::jD (i+1) t
def cV(v:View):List D:=[.str v.apex,.slice 5 (v.sets.map ax),.kmap (jD 0 v.sets),.str v.q.name,.int .i64 v.q.type,.str v.cut,.bool v.behind,.str v.dH]
theorem Rb(q:aR)(s:Signed):cm [.str,.int .i64] ((cL q).map .d) ((cL (qOf s)).map .d)=some (is q s):=by
 show some ((q.name==s.set.name)&&((q.type==s.set.type)&&true))=_
 rw[gM];unfold is
 congr 1
 rw[Bool.beq_comm (a:=q.name),Bool.beq_comm (a:=q.type)]
theorem Ar(q:aR):∀(l:List Signed) (i:Nat),ko [.str,.int .i64] (cL q) (jD i l)=some ((l.findIdx? (is q)).map λk=>D.int .i64 ((i+k:Nat):Int))
 |[],i=>rfl
 |s::t,i=>by
  rw[jD,ko,Rb];cases h:is q s with
  |true=>simp[List.findIdx?_cons,h]
  |false =>
   simp only;rw[Ar q t (i+1),List.findIdx?_cons,h];simp only[dI,if_false];cases t.findIdx? (is q) <;> simp;omega
def rA(l:List Signed)(n:Bs):Nat:=(l.takeWhile λs=>decide (aI s.set.name n<0)).length
theorem Rz(l:List Signed)(n:Bs):rA l n<=l.length:=(List.takeWhile_sublist _).length_le
theorem Ez{n:Bs}:∀{l:List Signed},l.Pairwise (λa b=>aI a.set.name b.set.name<=0)-> ∀{i:Nat} {s:Signed},l[i]? =some s->(rA l n<=i ↔ 0<=aI s.set.name n)
 |[],_,i,s,h=>by cases h
 |x::l,hp,i,s,h=>by
  obtain⟨h1,h2⟩:=List.pairwise_cons.1 hp;unfold rA;rw[List.takeWhile_cons];by_cases hx:aI x.set.name n<0
  . rw[if_pos (by simpa using hx),List.length_cons];cases i with
    |zero=>cases h;exact⟨λh=>by omega,λh=>by omega⟩
    |succ i =>
     have:=Ez (n:=n) h2 (i:=i) (s:=s) (by simpa using h);unfold rA at this;omega
  . rw[if_neg (by simpa using hx),List.length_nil];refine⟨λ_=>?_,λ_=>Nat.zero_le _⟩;cases i with
    |zero=>cases h;omega
    |succ i =>
     have hm:s∈l:=ao (i:=i) (by simpa using h);have h3:=h1 s hm;by_cases h4:aI s.set.name n<0
     . exact absurd (bo.Tj h3 h4) hx
     . omega
def exB(l:List Signed)(n:Bs):Bool:=match l[rA l n]? with|some s=>(bq s.set.name n).1|none=>false
end NP
namespace Go.Proofs.YtmaepddmaghpjaaGreatDoor
open NQ Go NP Go.RowKit
theorem wF(a b:Bs):NQ.Fn cx 214 [.str a,.str b] (.d (.int .i64 (cu a b).1)) []:=by
 refine aA aO mixed Tryz.func214 (by kernel_rfl) rfl (ag rfl) ?_;conv=>whnf
 (refine⟨_,_,oC a b,?_⟩;conv=>whnf)
 exact af rfl rfl
theorem Br(a b:Bs):NQ.Fn cx 184 [.str a,.str b] (.d (.bool (bq a b).1)) []:=by
 refine aA aO mixed Tryz.func184 (by kernel_rfl) rfl (ag rfl) ?_;conv=>whnf
 (refine⟨_,_,po a b,?_⟩;conv=>whnf)
 exact af rfl rfl
theorem JO(n c:Nat)(x y:D)(hn:n<=100000)(hc:c<=n)(hf:∀i:Nat,i<n->NQ.Fn cx 213 [.int .i64 i,x,y] (.d (.bool (decide (c<=i)))) []) :
 NQ.Fn cx 212 [.int .i64 n,.fn 213 [] [x,y]] (.d (.int .i64 c)) []:=by
 refine aA aO mixed Tryz.func212 (by kernel_rfl) rfl (ag rfl) ?_;conv=>whnf
 refine⟨Nat×Nat,λz=>⟨[(1,.d (.fn 213 [] [x,y])),(5,.d (.int .i64 z.1)),(6,.d (.int .i64 z.2))],[]⟩,λz=>z.1<=c/\c<=z.2/\z.2<=n,λz=>z.2-z.1,
  ⟨(0,n),⟨Nat.zero_le _,hc,Nat.le_refl _⟩,aj.keep ⟨ab,ab,ab,trivial⟩ trivial⟩,?_⟩
 rintro⟨i,j⟩ ⟨h1,h2,h3⟩;simp only at h1 h2 h3
 conv=>whnf
 refine ae (λhlt=>?_) (λhlt=>?_) <;> (rw[hlt];conv=>whnf)
 . have hij:i<j:=by simp at hlt;omega
   rw[Ed (by omega)]
   (refine⟨_,_,hf ((i+j) / 2) (by omega),?_⟩;conv=>whnf)
   refine ae (λh=>?_) (λh=>?_) <;> (rw[h];conv=>whnf)
   . have hlt:(i+j) / 2<c:=by simp at h;omega
     exact⟨((i+j) / 2+1,j),⟨hlt,h2,h3⟩,by(show j-((i+j) / 2+1)<j-i;omega),aj.keep ⟨ab,⟨an (by omega),rfl⟩,ab,trivial⟩ trivial⟩
   . have hle:c<=(i+j) / 2:=by simp at h;omega
     exact⟨(i,(i+j) / 2),⟨h1,hle,by(show(i+j) / 2<=n;omega)⟩,by(show(i+j) / 2-i<j-i;omega),aj.keep ⟨ab,ab,ab,trivial⟩ trivial⟩
 . obtain rfl:i=c:=by simp at hlt;omega
   exact af rfl rfl
theorem JP(n c:Nat)(x y:D)(hn:n<=100000)(hc:c<=n)(hf:∀i:Nat,i<n->NQ.Fn cx 225 [.int .i64 i,x,y] (.d (.bool (decide (c<=i)))) []) :
 NQ.Fn cx 212 [.int .i64 n,.fn 225 [] [x,y]] (.d (.int .i64 c)) []:=by
 refine aA aO mixed Tryz.func212 (by kernel_rfl) rfl (ag rfl) ?_;conv=>whnf
 refine⟨Nat×Nat,λz=>⟨[(1,.d (.fn 225 [] [x,y])),(5,.d (.int .i64 z.1)),(6,.d (.int .i64 z.2))],[]⟩,λz=>z.1<=c/\c<=z.2/\z.2<=n,λz=>z.2-z.1,
  ⟨(0,n),⟨Nat.zero_le _,hc,Nat.le_refl _⟩,aj.keep ⟨ab,ab,ab,trivial⟩ trivial⟩,?_⟩
 rintro⟨i,j⟩ ⟨h1,h2,h3⟩;simp only at h1 h2 h3
 conv=>whnf
 refine ae (λhlt=>?_) (λhlt=>?_) <;> (rw[hlt];conv=>whnf)
 . have hij:i<j:=by simp at hlt;omega
   rw[Ed (by omega)]
   (refine⟨_,_,hf ((i+j) / 2) (by omega),?_⟩;conv=>whnf)
   refine ae (λh=>?_) (λh=>?_) <;> (rw[h];conv=>whnf)
   . have hlt:(i+j) / 2<c:=by simp at h;omega
     exact⟨((i+j) / 2+1,j),⟨hlt,h2,h3⟩,by(show j-((i+j) / 2+1)<j-i;omega),aj.keep ⟨ab,⟨an (by omega),rfl⟩,ab,trivial⟩ trivial⟩
   . have hle:c<=(i+j) / 2:=by simp at h;omega
     exact⟨(i,(i+j) / 2),⟨h1,hle,by(show(i+j) / 2<=n;omega)⟩,by(show(i+j) / 2-i<j-i;omega),aj.keep ⟨ab,ab,ab,trivial⟩ trivial⟩
 . obtain rfl:i=c:=by simp at hlt;omega
   exact af rfl rfl
theorem jo(v:View)(n:Bs)(t:Int):NQ.Fn cx 183 [.ptr (cV v),.str n,.int .i64 t] (.d (.int .i64 (atI v.sets ⟨n,t⟩))) []:=by
 refine aA aO mixed Tryz.func183 (by kernel_rfl) rfl (ag rfl) ?_;conv=>whnf
 have hk:=Ar ⟨n,t⟩ v.sets 0;unfold atI;cases hf:v.sets.findIdx? (is ⟨n,t⟩)with
 |some k =>
  rw[hf]at hk;refine⟨some (.int .i64 k),by rw[Option.map_some,Nat.zero_add]at hk;exact hk,?_⟩
  conv=>whnf
  exact af rfl rfl
 |none =>
  rw[hf]at hk;refine⟨none,hk,?_⟩
  conv=>whnf
  exact af rfl rfl
theorem tw(v:View):NQ.Fn cx 187 [.ptr (cV v)] (.d (.int .i64 (atI v.sets ⟨v.apex,4⟩))) []:=by
 refine aA aO mixed Tryz.func187 (by kernel_rfl) rfl (ag rfl) ?_;conv=>whnf
 (refine⟨_,_,jo v v.apex 4,?_⟩;conv=>whnf)
 exact af rfl rfl
theorem II(v:View)(n:Bs)(i:Nat)(s:Signed)(hs:v.sets[i]? =some s):NQ.Fn cx 213 [.int .i64 i,.ptr [.ptr (cV v)],.ptr [.str n]] (.d (.bool (decide ((cu s.set.name n).1>=0)))) []:=by
 refine aA aO mixed Tryz.func213 (by kernel_rfl) rfl (ag rfl) ?_;conv=>whnf
 (refine⟨(by kernel_rfl:bg _ _=true),?_⟩;conv=>whnf)
 refine⟨aw i,ax s,aG hs,?_⟩
 conv=>whnf
 (refine⟨_,_,wF s.set.name n,?_⟩;conv=>whnf)
 exact af rfl rfl
theorem uA(v:View)(n:Bs)(hn:v.sets.length<=100000)(hr:dX v.sets)(hv:∀s∈v.sets,aq s.set.name=true)(hvn:aq n=true):NQ.Fn cx 186 [.ptr (cV v),.str n] (.d (.bool (exB v.sets n))) []:=by
 refine aA aO mixed Tryz.func186 (by kernel_rfl) rfl (ag rfl) ?_;conv=>whnf
 have hp:=qA hr;have hle:=Rz v.sets n;have hS:=JO v.sets.length (rA v.sets n) (.ptr [.ptr (cV v)]) (.ptr [.str n]) hn hle (λi hi=>by
  obtain⟨s,hs⟩:∃s,v.sets[i]? =some s:=⟨_,ah hi⟩
  have h:=II v n i s hs;have e:decide ((cu s.set.name n).1>=0)=decide (rA v.sets n<=i):=by
   have hc:(cu s.set.name n).1=aI s.set.name n:=by unfold cu;rw[if_pos ⟨hv s (ao hs),hvn⟩]
   rw[hc,decide_eq_decide];exact(Ez hp hs).symm
  rwa [e]at h)
 have hl:((v.sets.map ax).length:Int)=(v.sets.length:Int):=by rw[ak]
 rw[hl];refine⟨_,hS,rfl,?_⟩
 conv=>whnf
 (refine⟨(by kernel_rfl:bg _ _=true),?_⟩;conv=>whnf)
 rw[hl];unfold exB;cases hg:v.sets[rA v.sets n]? with
 |none =>
  have:decide (((rA v.sets n:Nat):Int)<(v.sets.length:Int))=false:=by
   rw[List.getElem?_eq_none_iff]at hg;rw[decide_eq_false];omega
  rw[this]
  conv=>whnf
  exact af rfl rfl
 |some s =>
  have:decide (((rA v.sets n:Nat):Int)<(v.sets.length:Int))=true:=by
   have:=(ar.1 hg).1;rw[decide_eq_true];omega
  rw[this]
  conv=>whnf
  refine⟨aw _,ax s,aG hg,?_⟩
  conv=>whnf
  (refine⟨_,_,Br s.set.name n,?_⟩;conv=>whnf)
  exact af rfl rfl
theorem OB(l:List Int)(x:Int)(hl:l.length<=100000):NQ.Fn cx 223 [.slice 1 (l.map ba),.int .i64 x] (.d (.int .i64 (match l.findIdx? (· ==x)with|some k=>(k:Int)|none=> -1))) []:=by
 refine aA aO mixed Tryz.func223 (by kernel_rfl) rfl (ag rfl) ?_;conv=>whnf
 refine⟨Nat,λk=>⟨[(0,.d (.slice 1 (l.map ba))),(1,.d (.int .i64 x)),(7,.d (.int .i64 ((l.map ba).length:Int))),(8,.d (.int .i64 k))],[]⟩,λk=>k<=l.length/\ ∀j y,j<k->l[j]? =some y->(y==x)=false,λk=>l.length-k,
  ⟨0,⟨by omega,λj y h=>by omega⟩,aj.keep ⟨ab,ab,ab,ab,trivial⟩ trivial⟩,λk ⟨hk,hall⟩=>?_⟩
 conv=>whnf
 refine ae (λh1=>?_) (λh1=>?_) <;> (rw[h1];conv=>whnf)
 . have hlt:k<l.length:=by simp at h1;omega
   obtain⟨y,hy⟩:∃s,l[k]? =some s:=⟨_,ah hlt⟩
   refine⟨aw k,ba y,aG hy,?_⟩
   conv=>whnf
   (refine ae (λh=>?_) (λh=>?_) <;> (rw[h];conv=>whnf))
   . refine af rfl ?_;have:l.findIdx? (· ==x)=some k:=by
      rw[List.findIdx?_eq_some_iff_getElem];refine⟨hlt,?_,λj hj=>?_⟩
      . obtain⟨_,e⟩:=ar.1 hy;rw[e];simp at h ⊢;exact h.symm
      . have:=hall j l[j] hj (ah (by omega));simpa using this
     rw[this];rfl
   . refine⟨k+1,⟨hlt,λj z hj hz=>?_⟩,by(show l.length-(k+1)<l.length-k;omega),aj.keep ⟨ab,ab,ab,⟨an (by omega),rfl⟩,trivial⟩ trivial⟩;rcases Nat.lt_or_eq_of_le (Nat.le_of_lt_succ hj)with h2|rfl
     . exact hall j z h2 hz
     . rw[hy]at hz;cases hz;simp at h ⊢;exact λe=>h e.symm
 . obtain rfl:k=l.length:=by simp at h1;omega
   refine af rfl ?_;have:l.findIdx? (· ==x)=none:=by
    rw[List.findIdx?_eq_none_iff];intro y hy;obtain⟨j,hj⟩:=cj hy;exact hall j y (ar.1 hj).1 hj
   rw[this];rfl
theorem FB(l:List Int)(x:Int)(hl:l.length<=100000):NQ.Fn cx 211 [.slice 1 (l.map ba),.int .i64 x] (.d (.bool (l.contains x))) []:=by
 refine aA aO mixed Tryz.func211 (by kernel_rfl) rfl (ag rfl) ?_;conv=>whnf
 (refine⟨_,_,OB l x hl,?_⟩;conv=>whnf)
 refine af rfl ?_;show AV.d (D.bool (decide ((match l.findIdx? (· ==x)with|some k=>(k:Int)|none=> -1)>=0)))=_
 congr 2
 cases h:l.findIdx? (· ==x)with
 |some k =>
  obtain⟨h1,h2,_⟩:=List.findIdx?_eq_some_iff_getElem.1 h;have:l.contains x=true:=by
   rw[dw];have e:l[k]=x:=by simpa using h2
   exact e ▸ List.getElem_mem h1
  rw[this,decide_eq_true];exact aw k
 |none =>
  have:l.contains x=false:=by
   rw[<- Bool.not_eq_true,dw];intro hm;have:=List.findIdx?_eq_none_iff.1 h x hm;simp at this
  rw[this];rfl
end Go.Proofs.YtmaepddmaghpjaaGreatDoor
namespace NP
open NQ Go
structure Ans where
 kind:Int
 sets:List Signed
 cut:Bs
 deriving DecidableEq
def gR(a:Ans):List D:=[.int .i64 a.kind,.slice 5 (a.sets.map ax),.str a.cut]
def cT(l:List Signed):List Int->List Int->List Signed
 |_,[]=>[]
 |seen,p::t=>if (decide (p<0)||seen.contains p)=true then cT l (seen++[p]) t else(l[p.toNat]?).getD oq::cT l (seen++[p]) t
end NP
namespace Go.Proofs.YtmaepddmaghpjaaGreatDoor
open NQ Go NP Go.RowKit
theorem JL(l:List Int)(k:Nat):((l.map ba).drop ((0:Nat):Int).toNat).take (((k:Nat):Int).toNat-((0:Nat):Int).toNat)=(l.take k).map ba:=by
 simp[List.map_take]
theorem ir(v:View)(kind:Int)(ps:List Int)(hn:ps.length<=1000)(hp:∀p∈ps,p<v.sets.length)(hs:∀s∈v.sets,Small s) :
 FnB cx 185 (cV v) [.int .i64 kind,.slice 1 (ps.map ba)] (.agg ((gR ⟨kind,cT v.sets [] ps,[]⟩).map .d)) (cV v):=by
 refine gA (λ_=>[]) aO mixed Tryz.func185 (by kernel_rfl) rfl (ag rfl) (ag rfl) ?_;conv=>whnf
 refine ⟨Nat × List Signed, fun x => ⟨[(0, .ptr 100000 0), (2, .d (.slice 1 (ps.map ba))), (6, .ptr 6 0), (7, .ptr 7 0), (13, .d (.slice 1 (ps.map ba))), (14, .d (.int .i64 ((ps.map ba).length : Int))), (15, .d (.int .i64 x.1))],
     [(100000,.box ((cV v).map .d)),(6,.box [.d (.int .i64 0),.nil 5,.d (.str [])]),(7,.box [.d (.int .i64 kind),.own 200,.d (.str [])]),(200,.row 50 5 (x.2.map ax))]⟩,
  λx=>x.1<=ps.length/\x.2.length<=x.1/\x.2++cT v.sets (ps.take x.1) (ps.drop x.1)=cT v.sets [] ps,λx=>ps.length-x.1,
  ⟨(0,[]),⟨by omega,by simp,by simp⟩,(aj.oP 7 1 200 5 [.d (.int .i64 kind),.nil 5,.d (.str [])] 50 5 rfl rfl rfl (by decide)).trans (aj.keep ⟨ab,ab,ab,ab,ab,ab,ab,trivial⟩ ⟨ab,ab,ab,ab,trivial⟩)⟩,?_⟩
 rintro⟨k,acc⟩ ⟨hk,hl,hc⟩;simp only at hk hl hc
 conv=>whnf
 refine ae (λh1=>?_) (λh1=>?_) <;> (rw[h1];conv=>whnf)
 . have hlt:k<ps.length:=by simp at h1;omega
   obtain⟨p,hpk⟩:∃p,ps[k]? =some p:=⟨_,ah hlt⟩
   rw[drop_cons hpk,cT, <- bj hpk]at hc;refine⟨aw k,ba p,aG hpk,?_⟩
   conv=>whnf
   have skip:(decide (p<0)||(ps.take k).contains p)=true-> ∀st,aj cx st ⟨[(0,.ptr 100000 0),(2,.d (.slice 1 (ps.map ba))),(6,.ptr 6 0),(7,.ptr 7 0),(13,.d (.slice 1 (ps.map ba))),(14,.d (.int .i64 ((ps.map ba).length:Int))),(15,.d (.int .i64 ((k+1:Nat):Int)))],
    [(100000,.box ((cV v).map .d)),(6,.box [.d (.int .i64 0),.nil 5,.d (.str [])]),(7,.box [.d (.int .i64 kind),.own 200,.d (.str [])]),(200,.row 50 5 (acc.map ax))]⟩ ->
    ∃y:Nat×List Signed,(y.1<=ps.length/\y.2.length<=y.1/\y.2++cT v.sets (ps.take y.1) (ps.drop y.1)=cT v.sets [] ps)/\ps.length-y.1<ps.length-k/\aj cx st ⟨[(0,.ptr 100000 0),(2,.d (.slice 1 (ps.map ba))),(6,.ptr 6 0),(7,.ptr 7 0),(13,.d (.slice 1 (ps.map ba))),(14,.d (.int .i64 ((ps.map ba).length:Int))),(15,.d (.int .i64 y.1))],
    [(100000,.box ((cV v).map .d)),(6,.box [.d (.int .i64 0),.nil 5,.d (.str [])]),(7,.box [.d (.int .i64 kind),.own 200,.d (.str [])]),(200,.row 50 5 (y.2.map ax))]⟩:=λhb st hw=>by
    rw[if_pos hb]at hc;exact⟨(k+1,acc),⟨hlt,by(show acc.length<=k+1;omega),hc⟩,by(show ps.length-(k+1)<ps.length-k;omega),hw⟩
   (refine ae (λh=>?_) (λh=>?_) <;> (rw[h];conv=>whnf))
   . exact skip (by rw[h];rfl) _ (aj.keep ⟨ab,ab,ab,ab,ab,ab,⟨an (by omega),rfl⟩,trivial⟩ ⟨ab,ab,ab,ab,trivial⟩)
   have hp0:=h;refine⟨by omega,by omega,by(rw[ak];omega),?_⟩
   conv=>whnf
   rw[JL]
   (refine⟨_,_,FB (ps.take k) p (by(rw[List.length_take];omega)),?_⟩;conv=>whnf)
   (refine ae (λh=>?_) (λh=>?_) <;> (rw[h];conv=>whnf))
   . exact skip (by rw[h,BY]) _ (aj.keep ⟨ab,ab,ab,ab,ab,ab,⟨an (by omega),rfl⟩,trivial⟩ ⟨ab,ab,ab,ab,trivial⟩)
   have hge:0<=p:=by simp at hp0;omega
   have hplt:=hp p (ao hpk);obtain⟨s,hsp⟩:∃s,v.sets[p.toNat]? =some s:=⟨_,ah (by omega)⟩
   have hsm:=hs s (ao hsp);rw[if_neg (by rw[hp0,h];simp),hsp]at hc;refine⟨hge,ax s,by(rw[aM,hsp];rfl),?_⟩
   conv=>whnf
   (refine⟨_,_,ue _ (by simpa using hsm.1),?_⟩;conv=>whnf)
   (refine⟨_,_,uf _ (by simpa using hsm.2),?_⟩;conv=>whnf)
   refine⟨by(show(acc.map ax).length+1<=_;rw[ak];omega),by(show((acc.map ax).length+1)*80<=_;rw[ak];omega),?_⟩
   conv=>whnf
   refine⟨(k+1,acc++[s]),⟨hlt,by(simp;omega),by(rw[<- hc];simp)⟩,by(show ps.length-(k+1)<ps.length-k;omega),aj.keep ⟨ab,ab,ab,ab,ab,ab,⟨an (by omega),rfl⟩,trivial⟩ ⟨ab,ab,ab,⟨by(show some (Blk.row _ _ (_++_))=some (Blk.row _ _ _);rw[List.map_append];rfl),rfl⟩,trivial⟩⟩
 . obtain rfl:k=ps.length:=by simp at h1;omega
   rw[List.drop_length,cT,List.append_nil]at hc;refine⟨[200],_,_,rfl,?_,rfl,rfl⟩;rw[<- hc];rfl
end Go.Proofs.YtmaepddmaghpjaaGreatDoor
namespace NP
open NQ Go
end NP
namespace Go.Proofs.YtmaepddmaghpjaaGreatDoor
open NQ Go NP Go.RowKit
theorem wP(z:aF)(hv:aW z=true):NQ.Fn cx 47 [.agg (aT z)] (.d (.int .i64 (gj z))) []:=by
 have ho:=bA hv;have hfew:=ho.few;refine aA aO mixed Tryz.func47 (by kernel_rfl) rfl (ag rfl) ?_;conv=>whnf
 obtain⟨k,s,hk,hs,hp⟩:=yq (dt.1 hv).start;have fA:=Ct z ⟨z.apex,4⟩ (by omega);rw[hk]at fA;obtain⟨d,hd⟩:=qC (ho.set s (ao hs));have e:gj z=d.n:=by
  unfold gj;rw[RY ho.rising.pw hs hp,hs];simp only[hd]
 (refine⟨(by kernel_rfl:bg _ _=true),?_⟩;conv=>whnf)
 (refine⟨_,_,fA,?_⟩;conv=>whnf)
 refine⟨aw k,ax s,aG hs,?_⟩
 conv=>whnf
 refine⟨by decide,bz d,by(show(s.set.data.map bz)[(0:Int).toNat]? =_;simp[hd]),?_⟩
 conv=>whnf
 exact af rfl (by rw[e];rfl)
end Go.Proofs.YtmaepddmaghpjaaGreatDoor
