/-
  Merged texts.
-/
import Derived.Test.YtjapjahfllomkaaGreatDoorMVa
import Derived.Deep.RegionLaw
import Derived.Lib.Walk
import Derived.Lib.SlicesDelete
import Derived.Shelf.RegionOpenPlain
import Derived.Lib.AppendZerosOnto
import Derived.Laws.NewBlocks
import Derived.Shelf.Spec.SlicesInsert
set_option linter.all false
set_option maxRecDepth 100000
namespace NP
open NQ Go
def wk:Signed:=⟨⟨[],0,0,[]⟩,[]⟩
def Small(s:Signed):Prop:=s.set.data.length<=100000/\s.sigs.length<=100000
def oZ(z:aF)(q:aV):Signed×Bool×Int :=
 if (!bK q|| !aY z)=true then(wk,false,1)else if (!cP z.sets q)=true then(wk,false,0)else((z.sets[posOf z.sets q]?).getD wk,true,0)
theorem vu{l:List Sig}{a:Bs}(h:fZ l a=true):l.length<=6:=by
 simp[fZ]at h;omega
theorem ub{s:gG}(h:dP s=true):s.data.length<=8:=by
 unfold dP at h;simp only[aB,Bool.not_eq_true',Bool.or_eq_false_iff,Bool.not_eq_false']at h;have:=h.1.1.2;simp[within]at this;omega
theorem oe{z:aF}(h:aY z=true):∀s∈z.sets,Small s:=λs hs=>by
 have ho:=bC h;refine⟨by have:=ub (ho.set s hs);omega,?_⟩;simp only[aY,aB]at h;have hf:=h.2.2;simp only[nT,ax]at hf;obtain⟨i,hi,rfl⟩:=List.getElem_of_mem hs;have:=hf i (List.mem_range.2 hi);simp only[lS,ag hi]at this;have:=vu this;omega
end NP
namespace Go.Proofs.YtjapjahfllomkaaGreatDoor
open NQ Go NP Go.RowKit
theorem uL(rows:List (List D))(hl:rows.length<=100000):NQ.Fn cx 165 [.slice 3 rows] (.d (.slice 3 rows)) []:=by
 refine aA aO mixed Tryz.func165 (by kernel_rfl) rfl (ah rfl) ?_;conv=>whnf
 refine⟨λh=>?_,?_⟩
 . refine af rfl ?_;rw[List.isEmpty_iff.1 h];rfl
 . conv=>whnf
   refine⟨by(show 0+rows.length<=_;omega),by(show(0+rows.length)*32<=_;omega),?_⟩
   conv=>whnf
   exact af rfl rfl
theorem uM(rows:List (List D))(hl:rows.length<=100000):NQ.Fn cx 166 [.slice 6 rows] (.d (.slice 6 rows)) []:=by
 refine aA aO mixed Tryz.func166 (by kernel_rfl) rfl (ah rfl) ?_;conv=>whnf
 refine⟨λh=>?_,?_⟩
 . refine af rfl ?_;rw[List.isEmpty_iff.1 h];rfl
 . conv=>whnf
   refine⟨by(show 0+rows.length<=_;omega),by(show(0+rows.length)*56<=_;omega),?_⟩
   conv=>whnf
   exact af rfl rfl
theorem OD(s:Signed)(h1:s.set.data.length<=100000)(h2:s.sigs.length<=100000):NQ.Fn cx 88 [.agg (az s)] (.agg ((az s).map .d)) []:=by
 refine aA aO mixed Tryz.func88 (by kernel_rfl) rfl (ah rfl) ?_;conv=>whnf
 (refine⟨_,_,uL _ (by simpa using h1),?_⟩;conv=>whnf)
 (refine⟨_,_,uM _ (by simpa using h2),?_⟩;conv=>whnf)
 exact af rfl rfl
theorem QI(z:aF)(q:aV):NQ.Fn cx 36 [.agg (aW z),.agg (cS q)] (.tuple [.agg ((az (oZ z q).1).map .d),.d (.bool (oZ z q).2.1),.d (.int .i64 (oZ z q).2.2)]) []:=by
 refine aA aO mixed Tryz.func36 (by kernel_rfl) rfl (ah rfl) ?_;conv=>whnf
 (refine⟨_,_,MX q,?_⟩;conv=>whnf)
 have bad:(!bK q|| !aY z)=true->oZ z q=(wk,false,1):=λh=>by rw[oZ,if_pos h]
 (refine ae (λh=>?_) (λh=>?_) <;> (rw[h];conv=>whnf))
 . refine af rfl ?_;rw[bad (by simp[h])];rfl
 have hq0:=h
 (refine⟨_,_,rn z,?_⟩;conv=>whnf)
 (refine ae (λh=>?_) (λh=>?_) <;> (rw[h];conv=>whnf))
 . refine af rfl ?_;rw[bad (by simp[h])];rfl
 have hq:bK q=true:=by simpa using hq0
 have hv:aY z=true:=by simpa using h
 have hqn:au q.name=true:=by simp[bK]at hq;exact hq.1.1
 have ho:=bC hv
 (refine⟨_,_,wA ho q hqn,?_⟩;conv=>whnf)
 (refine ae (λh=>?_) (λh=>?_) <;> (rw[h];conv=>whnf))
 . refine af rfl ?_;rw[oZ,if_neg (by simp[hq,hv]),if_pos (by assumption)];rfl
 have hh:=h;obtain⟨s,hs,hm,_⟩:=tA ho hqn (by simpa using hh);refine⟨av _,az s,aC hs,?_⟩
 conv=>whnf
 have hsm:=oe hv s hm
 (refine⟨_,_,OD s hsm.1 hsm.2,?_⟩;conv=>whnf)
 refine af rfl ?_;rw[oZ,if_neg (by simp[hq,hv]),if_neg (by simpa using hh),hs];rfl
end Go.Proofs.YtjapjahfllomkaaGreatDoor
namespace NP
open NQ Go
def qOf(s:Signed):aV:=⟨s.set.name,s.set.type⟩
def Ub(l:List Signed)(i:Nat)(s:Signed):List Signed:=l.take i++[s]++l.drop i
def TE(l:List Signed)(s:Signed):List Signed:=if cP l (qOf s)=true then l.set (posOf l (qOf s)) s else Ub l (posOf l (qOf s)) s
end NP
namespace Go.Proofs.YtjapjahfllomkaaGreatDoor
open NQ Go NP Go.RowKit
end Go.Proofs.YtjapjahfllomkaaGreatDoor
namespace NP
open NQ Go
theorem Iu{s:Bs}(h:au s=true):(bj s).length<=8:=by
 have:=oI h;simp[okL]at this;exact this.1
theorem qy{s:Bs}(h:au s=true):s≠[]:=by rintro rfl;revert h;decide
theorem BH{z:aF}{i:Nat}{s:Signed}(h:z.sets[i]? =some s)(ho:Ordered z):(cV z)[i]? =some (spec (bG z) s.set.name):=by
 rw[<- uG ho,uF ho,aQ,h];rfl
theorem OM{z:aF}(hv:aY z=true){s:Signed}(hs:s∈z.sets):kv s (spec (bG z) s.set.name)=false:=by
 have ho:=bC hv;obtain⟨i,hi⟩:=cm hs;simp only[aY,aB]at hv;have hc:=hv.2.1.1.2;simp only[nP,ax]at hc;have:=hc i (List.mem_range.2 (ar.1 hi).1);simp only[cutAt,hi,BH hi ho]at this;simpa using this
theorem kx(apex c:Bs):∀(l:List Signed),c∈cv apex l ↔ ∃s∈l,dj apex s=true/\s.set.name=c
 |[]=>by simp[cv]
 |s::t=>by
  have ih:=kx apex c t;unfold cv;split
  . rename_i h;rw[List.mem_cons,ih];constructor
    . rintro(rfl|⟨x,hx,k⟩)
      . exact⟨s,List.mem_cons_self .., h,rfl⟩
      . exact⟨x,aM _ hx,k⟩
    . rintro⟨x,hx,k1,k2⟩;rcases List.mem_cons.1 hx with rfl|hx
      . exact .inl k2.symm
      . exact .inr ⟨x,hx,k1,k2⟩
  . rename_i h;rw[ih];constructor
    . rintro⟨x,hx,k⟩;exact⟨x,aM _ hx,k⟩
    . rintro⟨x,hx,k1,k2⟩;rcases List.mem_cons.1 hx with rfl|hx
      . exact absurd k1 h
      . exact⟨x,hx,k1,k2⟩
theorem NI{s:Bs}(h:au s=true):(s==[])=false:=by have:=qy h;simpa using this
theorem DZ{z:aF}(hv:aY z=true){c:Bs}(hc:c∈cv z.apex z.sets):c∈bG z:=by
 have ho:=bC hv;obtain⟨hA,ha,hcov⟩:=lh ho;obtain⟨s,hs,hcut,rfl⟩:=(kx _ _ _).1 hc;obtain⟨g,hg,hu⟩:=hcov _ hc;have hsp:=my hA ha hg hu;have hr:=OM hv hs;rw[hsp]at hr;have ht:s.set.type=2:=by simp[dj]at hcut;exact hcut.1
 unfold kv at hr;rw[if_neg (by rw[NI (pc ho hg)];exact Bool.false_ne_true)]at hr;split at hr
 . rename_i e;rw[<- beq_iff_eq.1 e];exact hg
 . rw[ht]at hr;cases hr
theorem Im{z:aF}{n:Bs}(hne:n≠z.apex):cP z.sets ⟨n,2⟩=true ↔ n∈cv z.apex z.sets:=by
 rw[kx];simp only[cP,List.any_eq_true,is,aB,beq_iff_eq,dj,Bool.not_eq_true',beq_eq_false_iff_ne];constructor
 . rintro⟨s,hs,h1,h2⟩;exact⟨s,hs,⟨h2,by rw[h1];exact hne⟩,h1⟩
 . rintro⟨s,hs,⟨h1,_⟩,h2⟩;exact⟨s,hs,h2,h1⟩
theorem oc{a b c:Bs}(h:aH a b=true)(k:aH b c=true):aH a c=true:=by
 rw[dE]at *; exact k.trans h
theorem ng{a b:Bs}(h:aH a b=true)(k:aH b a=true):a=b:=by
 rw[dE]at *;exact sU ((k.eq_of_length (Nat.le_antisymm k.length_le h.length_le)))
theorem nh{n c:Bs}(hn:au n=true)(h:aH n c=true)(hne:n≠c):aH (bw n) c=true:=(kT hn h hne).2.1
theorem mS{n:Bs}(hn:au n=true):aH n (bw n)=true:=by
 unfold aH;rw[xo hn];exact List.isSuffixOf_iff_suffix.2 (List.tail_suffix _)
theorem tj{z:aF}:∀{f:Nat} {n c:Bs},au n=true->lQ z f n=some c->c∈cv z.apex z.sets/\aH n c=true
 |0,n,c,_,h=>by simp[lQ]at h
 |f+1,n,c,hv,h=>by
  unfold lQ at h;split at h
  . cases h
  . rename_i hne;split at h
    . rename_i hh;cases h;exact⟨(Im hne).1 hh,fW n⟩
    . obtain⟨h1,h2⟩:=tj (ga hv) h;exact⟨h1,oc (mS hv) h2⟩
theorem zy{z:aF}(ho:Ordered z):∀{f:Nat} {n:Bs},au n=true->aH n z.apex=true->f=(bj n).length+1->lQ z f n=none-> ∀c∈cv z.apex z.sets,aH n c=false
 |0,n,_,_,hf,_=>by omega
 |f+1,n,hv,hu,hf,h=>by
  intro c hc;obtain⟨s,hs,hcut,hnm⟩:=(kx _ _ _).1 hc;have hca:aH c z.apex=true:=by
   have:=ho.under s hs;unfold bz at this;rw[if_pos ⟨ho.name s hs,ho.apex⟩]at this;rw[<- hnm];exact this
  have hne' :c≠z.apex:=by simp[dj]at hcut;rw[<- hnm];exact hcut.2
  unfold lQ at h;split at h
  . rename_i e;cases hun:aH n c with
    |false=>rfl
    |true=>rw[e]at hun;exact absurd (ng hca hun) hne'
  . rename_i hne;split at h
    . cases h
    . rename_i hh;obtain⟨_,k2,k3⟩:=kT hv hu hne;have ih:=zy ho (ga hv) k2 (by omega) h c hc;cases hun:aH n c with
      |false=>rfl
      |true =>
       by_cases e:n=c
       . subst e;exact absurd ((Im hne).2 hc) hh
       . rw[nh hv hun e]at ih;cases ih
theorem LU{z:aF}(hv:aY z=true){n:Bs}(hn:au n=true)(hu:aH n z.apex=true) :
 (rI z n=none/\spec (bG z) n=[])\/ ∃c,rI z n=some c/\spec (bG z) n=c/\c∈bG z/\c≠[]:=by
 have ho:=bC hv;obtain⟨hA,ha,_⟩:=lh ho;cases h:rI z n with
 |none=>exact .inl ⟨rfl,rf λc hc=>zy ho hn hu rfl h c (pU hc)⟩
 |some c =>
  obtain⟨h1,h2⟩:=tj hn h;have h3:=DZ hv h1;exact .inr ⟨c,rfl,my hA ha h3 h2,h3,qy (pc ho h3)⟩
theorem Nk{z:aF}(ho:Ordered z){s:Signed}(hs:s∈z.sets):aH s.set.name z.apex=true:=by
 have:=ho.under s hs;unfold bz at this;rw[if_pos ⟨ho.name s hs,ho.apex⟩]at this;exact this
theorem Am{z:aF}(h:aY z=true):dY z=(gz z,0):=by unfold dY;rw[h];rfl
theorem DY(p:Bs×Int):cpl p p=0:=(iY.zero _ _).2 rfl
theorem uP{a b:Bs×Int}(h:cpl a b<0):a≠b:=λe=>by subst e;rw[DY]at h;omega
abbrev RP(l:List Signed):Prop:=l.Pairwise λa b=>cpl a.place b.place<0
theorem ee.pw:∀{l:List Signed},ee l->RP l
 |[],_=>List.Pairwise.nil
 |x::t,h=>List.Pairwise.cons (mv h) h.tail.pw
theorem RP.uniq:∀{l:List Signed},RP l-> ∀{a b:Signed},a∈l->b∈l->a.place=b.place->a=b
 |[],_,_,_,ha,_,_=>by cases ha
 |x::l,h,a,b,ha,hb,e=>by
  obtain⟨h1,h2⟩:=List.pairwise_cons.1 h;rcases List.mem_cons.1 ha with ha' |ha' <;> rcases List.mem_cons.1 hb with hb' |hb'
  . rw[ha',hb']
  . subst ha';exact(uP (h1 b hb') e).elim
  . subst hb';exact(uP (h1 a ha') e.symm).elim
  . exact RP.uniq h2 ha' hb' e
theorem sA{l:List Signed}{q:aV}:cP l q=true ↔ ∃s∈l,s.place=q.place:=by
 simp only[cP,List.any_eq_true,lK]
def rem(q:aV)(l:List Signed):List Signed:=l.filter λx=> !is q x
theorem Cu{s:gG}(h:dP s=true):1<=s.type/\s.type<=8:=by
 unfold dP at h;simp only[aB,Bool.not_eq_true',Bool.or_eq_false_iff,Bool.not_eq_false']at h;have:=h.1.1.1.1.2;simp[within]at this;exact this
theorem BJ{z:aF}(ho:Ordered z):aliases z=true ↔ ∀s∈z.sets,∀x∈z.sets,s.set.type=3->x.set.name=s.set.name->x.set.type=3\/x.set.type=8:=by
 unfold aliases;rw[ax];constructor
 . intro h s hs x hx h3 hn;obtain⟨i,hi⟩:=cm hs;obtain⟨j,hj⟩:=cm hx;have hil:=(ar.1 hi).1;have hjl:=(ar.1 hj).1;obtain⟨p,hp⟩:∃p,z.sets[i-1]? =some p:=⟨_,ag (by omega)⟩
   have hok:=h i (List.mem_range.2 hil);refine Decidable.byContradiction λhno=>?_
   have hne3:x.set.type≠3:=λe=>hno (.inl e)
   have hne8:x.set.type≠8:=λe=>hno (.inr e)
   have hbad:mD z i=false:=by
    refine(nv hi hp).2 ⟨h3,?_⟩;rcases Nat.lt_trichotomy j i with hlt|heq|hgt
    . left
      refine⟨by omega,?_⟩;rcases Nat.lt_or_eq_of_le (show j<=i-1 by omega)with k|k
      . have a1:=(jA (gh ho.rising k hj hp)).1;have a2:=(jA (gh ho.rising (show i-1<i by omega) hp hi)).1;rw[hn]at a1;exact(Jm a1 a2).symm
      . rw[<- k,hj]at hp;cases hp;exact hn
    . subst heq;rw[hi]at hj;cases hj;exact absurd h3 hne3
    . right
      rcases Nat.lt_or_eq_of_le (show i+1<=j by omega)with k|k
      . obtain⟨y,hy⟩:∃y,z.sets[i+1]? =some y:=⟨_,ag (by omega)⟩
        have a1:=jA (gh ho.rising k hy hj);have a2:=(jA (gh ho.rising (show i<i+1 by omega) hi hy)).1;have hyn:y.set.name=s.set.name:=by
         have:=a1.1;rw[hn]at this;exact Jm this a2
        refine⟨y,hy,hyn,?_⟩;have:=a1.2 (hyn.trans hn.symm);have:=(Cu (ho.set x hx)).2;omega
      . exact⟨x,by rw[k];exact hj,hn,hne8⟩
   rw[hbad]at hok;cases hok
 . intro h i hi;have hil:=List.mem_range.1 hi;obtain⟨s,hs⟩:∃s,z.sets[i]? =some s:=⟨_,ag hil⟩
   obtain⟨p,hp⟩:∃p,z.sets[i-1]? =some p:=⟨_,ag (by omega)⟩
   cases hb:mD z i with
   |true=>rfl
   |false =>
    obtain⟨h3,k⟩:=(nv hs hp).1 hb;have hsm:=aq hs;rcases k with ⟨k1,k2⟩|⟨x,k1,k2,k3⟩
    . have:=(jA (gh ho.rising (show i-1<i by omega) hp hs)).2 k2;rcases h s hsm p (aq hp) h3 k2 with e|e <;> omega
    . have:=(jA (gh ho.rising (show i<i+1 by omega) hs k1)).2 k2.symm;rcases h s hsm x (aq k1) h3 k2 with e|e
      . omega
      . exact absurd e k3
theorem lU{α:Type}{l:List α}{p:Nat->Bool}{q:α->Bool}(h:∀i s,l[i]? =some s->p i=q s):(List.range l.length).all p=true ↔ ∀s∈l,q s=true:=by
 rw[ax];constructor
 . intro k s hs;obtain⟨i,hi⟩:=cm hs;rw[<- h i s hi];exact k i (List.mem_range.2 (ar.1 hi).1)
 . intro k i hi;have hi:=List.mem_range.1 hi;rw[h i _ (ag hi)];exact k _ (List.getElem_mem hi)
theorem Ordered.bool{z:aF}(h:Ordered z):ordered z=true:=by
 unfold ordered;have hall:(List.range z.sets.length).all (qS z)=true:=by
  rw[ax];intro i hi;have hi:=List.mem_range.1 hi;obtain⟨s,hs⟩:∃s,z.sets[i]? =some s:=⟨_,ag hi⟩
  obtain⟨p,hp⟩:∃p,z.sets[i-1]? =some p:=⟨_,ag (by omega)⟩
  have hsm:=aq hs;have hpm:=aq hp;rw[qi hs hp,lL,h.set s hsm,h.under s hsm,td _ _ (h.name p hpm) (h.name s hsm)];by_cases h0:i=0
  . subst h0;rfl
  . have:=gh h.rising (show i-1<i by omega) hp hs;have e:cpl (p.set.name,p.set.type) (s.set.name,s.set.type)<0:=this;have e2:¬cpl (p.set.name,p.set.type) (s.set.name,s.set.type)>=0:=by omega
    simp[e2]
 have hf:¬((z.sets.length:Int)>20000):=by have:=h.few;omega
 rw[hall,h.apex,h.tame];simp[hf]
structure Val(z:aF):Prop where
 ord:Ordered z
 start:cP z.sets ⟨z.apex,4⟩=true
 serv:cP z.sets ⟨z.apex,2⟩=true
 fit:∀s∈z.sets,fits s.set.type (s.set.name==z.apex)=true
 ali:∀s∈z.sets,∀x∈z.sets,s.set.type=3->x.set.name=s.set.name->x.set.type=3\/x.set.type=8
 cut:∀s∈z.sets,kv s (spec (bG z) s.set.name)=false
 sig:∀s∈z.sets,mW s (spec (bG z) s.set.name)=false
 form:∀s∈z.sets,fZ s.sigs z.apex=true
theorem Ij(z:aF):(List.range z.sets.length).all (jv z)=true ↔ ∀s∈z.sets,fits s.set.type (s.set.name==z.apex)=true :=
 lU λi s h=>by unfold jv;rw[h]
theorem Eu(z:aF):nT z=true ↔ ∀s∈z.sets,fZ s.sigs z.apex=true :=
 lU λi s h=>by unfold lS;rw[h]
theorem BT{z:aF}(ho:Ordered z):nP z (cV z)=true ↔ ∀s∈z.sets,kv s (spec (bG z) s.set.name)=false:=by
 unfold nP;rw[lU (q:=λs=> !kv s (spec (bG z) s.set.name)) λi s h=>by unfold cutAt;rw[BH h ho,h]];simp only[Bool.not_eq_true']
theorem Cw{z:aF}(ho:Ordered z):pr z (cV z)=true ↔ ∀s∈z.sets,mW s (spec (bG z) s.set.name)=false:=by
 unfold pr;rw[lU (q:=λs=> !mW s (spec (bG z) s.set.name)) λi s h=>by unfold pq;rw[BH h ho,h]];simp only[Bool.not_eq_true']
theorem dq{z:aF}:aY z=true ↔ Val z:=by
 constructor
 . intro h;have ho:=bC h;unfold aY iG at h;simp only[aB]at h;obtain⟨⟨_,⟨⟨a1,a2⟩,a3⟩⟩,⟨⟨b1,b2⟩,b3⟩,b4⟩:=h;exact⟨ho,a1,a2,(Ij z).1 a3,(BJ ho).1 b1,(BT ho).1 b2,(Cw ho).1 b3,(Eu z).1 b4⟩
 . intro h;unfold aY iG;dsimp only;rw[h.ord.bool,h.start,h.serv,(Ij z).2 h.fit,(BJ h.ord).2 h.ali,(BT h.ord).2 h.cut,(Cw h.ord).2 h.sig,(Eu z).2 h.form];rfl
theorem KT{z:aF}(ho:Ordered z)(n:Bs):(spec (bG z) n=[]/\ ∀c∈cv z.apex z.sets,aH n c=false) \/
 (spec (bG z) n∈cv z.apex z.sets/\aH n (spec (bG z) n)=true/\ ∀c∈cv z.apex z.sets,aH n c=true->aH c (spec (bG z) n)=true):=by
 obtain⟨hA,ha,hg⟩:=lh ho;by_cases he:∃h∈bG z,aH n h=true
 . obtain⟨h,hm,hu⟩:=he;have e:=my hA ha hm hu;rw[e];refine .inr ⟨pU hm,hu,λc hc hn=>?_⟩;obtain⟨g,hgm,hgu⟩:=hg c hc;have e2:=my hA ha hgm (oc hn hgu);rw[<- e,e2];exact hgu
 . have hno:∀h∈bG z,aH n h=false:=λh hm=>by
    cases hu:aH n h with
    |false=>rfl
    |true=>exact(he ⟨h,hm,hu⟩).elim
   refine .inl ⟨rf hno,λc hc=>?_⟩;cases hu:aH n c with
   |false=>rfl
   |true =>
    obtain⟨g,hgm,hgu⟩:=hg c hc;exact(he ⟨g,hgm,oc hu hgu⟩).elim
theorem LV{z:aF}(ho:Ordered z){c:Bs}(h:c∈cv z.apex z.sets):c≠[]/\c≠z.apex/\au c=true/\aH c z.apex=true/\cP z.sets ⟨c,2⟩=true:=by
 obtain⟨s,hs,h1,h2⟩:=(kx _ _ _).1 h;subst h2;unfold dj at h1;simp only[aB,beq_iff_eq,Bool.not_eq_true',beq_eq_false_iff_ne]at h1;exact⟨qy (ho.name s hs),h1.2,ho.name s hs,Nk ho hs,sA.2 ⟨s,hs,by show(s.set.name,s.set.type)=_;rw[h1.1];rfl⟩⟩
theorem PU{s:Signed}(h:dP s.set=true):bK (qOf s)=true:=by
 have h1:=jC h;have h2:=Cu h;unfold bK qOf;simp only[h1,dC,aB,decide_eq_true_eq];exact⟨h2.1,h2.2⟩
theorem kA{z:aF}(hv:aY z=true){s:Signed}(hs:s∈z.sets):oZ z (qOf s)=(s,true,0):=by
 have ho:=bC hv;have hh:cP z.sets (qOf s)=true:=sA.2 ⟨s,hs,rfl⟩;obtain⟨x,hx,hm,hp⟩:=tA ho (q:=qOf s) (ho.name s hs) hh;have e:=ho.rising.pw.uniq hm hs hp;subst e;unfold oZ;rw[if_neg (by simp[PU (ho.set _ hs),hv]),if_neg (by simp[hh]),hx];rfl
theorem Qw{z:aF}(hv:aY z=true){c n:Bs}(hc:c∈cv z.apex z.sets)(hu:aH n c=true):spec (bG z) n=c:=by
 obtain⟨hA,ha,_⟩:=lh (bC hv);exact my hA ha (DZ hv hc) hu
theorem zj{l:List Signed}{q:aV}(h:cP l q=true):∃(k:Nat) (s:Signed),atI l q=k/\l[k]? =some s/\s.place=q.place:=by
 unfold atI;cases hf:l.findIdx? (is q)with
 |none =>
  rw[List.findIdx?_eq_none_iff]at hf;unfold cP at h;rw[List.any_eq_true]at h;obtain⟨s,hs,e⟩:=h;rw[hf s hs]at e;cases e
 |some k =>
  obtain⟨h1,h2,_⟩:=List.findIdx?_eq_some_iff_getElem.1 hf;exact⟨k,l[k],rfl,ag h1,(lK q _).1 h2⟩
theorem SP{l:List Signed}(hl:RP l){q:aV}{k:Nat}{s:Signed}(hk:l[k]? =some s)(hp:s.place=q.place):posOf l q=k:=by
 unfold posOf;have h1:l=l.take k++s::l.drop (k+1):=by
  obtain⟨hlt,e⟩:=ar.1 hk
  conv=>lhs;rw[<- List.take_append_drop k l,List.drop_eq_getElem_cons hlt,e]
 have hlt:k<l.length:=(ar.1 hk).1;have h2:∀x∈l.take k,decide (cpl x.place q.place<0)=true:=λx hx=>by
  have hl' :=hl;rw[h1]at hl';have:=(List.pairwise_append.1 hl').2.2 x hx s (List.mem_cons_self ..);rw[<- hp];simpa using this
 conv=>lhs;rw[h1]
 rw[List.takeWhile_append_of_pos h2,List.takeWhile_cons,if_neg (by rw[hp,DY];simp)];simp;omega
def bU(z:aF)(n:Bs):Bs:=((cv z.apex z.sets).find? λc=>aH n c).getD []
theorem OJ{z:aF}(hv:aY z=true)(n:Bs):bU z n=spec (bG z) n:=by
 unfold bU;cases hf:(cv z.apex z.sets).find? λc=>aH n c with
 |none =>
  rw[List.find?_eq_none]at hf;rcases KT (bC hv) n with ⟨e,_⟩|⟨e1,e2,_⟩
  . rw[e];rfl
  . exact absurd e2 (hf _ e1)
 |some c =>
  have h1:=List.find?_some hf;have h2:=List.mem_of_find?_eq_some hf;rw[Qw hv h2 h1];rfl
theorem Ih{z:aF}{n:Bs}(hv:aY z=true)(hn:au n=true)(hu:aH n z.apex=true):fY z n=(bU z n, !(bU z n==[]),0):=by
 have ha:=(bC hv).apex;have hu' :(bz n z.apex).1=true:=by unfold bz;rw[if_pos ⟨hn,ha⟩];exact hu
 rw[OJ hv];unfold fY;rw[if_neg (by simp[hv,hn]),if_neg (by simp[hu'])];rcases LU hv hn hu with ⟨e1,e2⟩|⟨c,e1,e2,_,e3⟩
 . rw[e1,e2];rfl
 . rw[e1,e2];have:(c==[])=false:=by simpa using e3
   rw[this];rfl
def ref(o:Bool)(s:Signed):Bool:=o||(s.set.type==2)
def mark(s:Signed)(o:Bool):Bs:=if ref o s=true then[]else s.set.name++[0]
end NP
namespace Go.Proofs.YtjapjahfllomkaaGreatDoor
open NQ Go NP Go.RowKit
theorem Nf(z:aF)(hn:z.sets.length<=100000):NQ.Fn cx 115 [.agg (aW z)] (.d (.bool (aY z))) []:=by
 have:=NG z hn
 rwa [Qx]at this
end Go.Proofs.YtjapjahfllomkaaGreatDoor
namespace NP
open NQ Go
structure View where
 apex:Bs
 sets:List Signed
 q:aV
 cut:Bs
 behind:Bool
 dL:Bs
def jM:Nat->List Signed->List (List D×D)
 |_,[]=>[]
 |i,s::t=>(cS (qOf s),.int .i64 i)::jM (i+1) t
def de(v:View):List D:=[.str v.apex,.slice 5 (v.sets.map az),.kmap (jM 0 v.sets),.str v.q.name,.int .i64 v.q.type,.str v.cut,.bool v.behind,.str v.dL]
theorem RQ(q:aV)(s:Signed):cq [.str,.int .i64] ((cS q).map .d) ((cS (qOf s)).map .d)=some (is q s):=by
 show some ((q.name==s.set.name)&&((q.type==s.set.type)&&true))=_
 rw[gj];unfold is
 congr 1
 rw[Bool.beq_comm (a:=q.name),Bool.beq_comm (a:=q.type)]
theorem Bj(q:aV):∀(l:List Signed) (i:Nat),kG [.str,.int .i64] (cS q) (jM i l)=some ((l.findIdx? (is q)).map λk=>D.int .i64 ((i+k:Nat):Int))
 |[],i=>rfl
 |s::t,i=>by
  rw[jM,kG,RQ];cases h:is q s with
  |true=>simp[List.findIdx?_cons,h]
  |false =>
   simp only;rw[Bj q t (i+1),List.findIdx?_cons,h];simp only[dM,if_false];cases t.findIdx? (is q) <;> simp;omega
def rX(l:List Signed)(n:Bs):Nat:=(l.takeWhile λs=>decide (aI s.set.name n<0)).length
theorem Sn(l:List Signed)(n:Bs):rX l n<=l.length:=(List.takeWhile_sublist _).length_le
theorem Fv{n:Bs}:∀{l:List Signed},l.Pairwise (λa b=>aI a.set.name b.set.name<=0)-> ∀{i:Nat} {s:Signed},l[i]? =some s->(rX l n<=i ↔ 0<=aI s.set.name n)
 |[],_,i,s,h=>by cases h
 |x::l,hp,i,s,h=>by
  obtain⟨h1,h2⟩:=List.pairwise_cons.1 hp;unfold rX;rw[List.takeWhile_cons];by_cases hx:aI x.set.name n<0
  . rw[if_pos (by simpa using hx),List.length_cons];cases i with
    |zero=>cases h;exact⟨λh=>by omega,λh=>by omega⟩
    |succ i =>
     have:=Fv (n:=n) h2 (i:=i) (s:=s) (by simpa using h);unfold rX at this;omega
  . rw[if_neg (by simpa using hx),List.length_nil];refine⟨λ_=>?_,λ_=>Nat.zero_le _⟩;cases i with
    |zero=>cases h;omega
    |succ i =>
     have hm:s∈l:=aq (i:=i) (by simpa using h);have h3:=h1 s hm;by_cases h4:aI s.set.name n<0
     . exact absurd (bp.Ud h3 h4) hx
     . omega
def exB(l:List Signed)(n:Bs):Bool:=match l[rX l n]? with|some s=>(bz s.set.name n).1|none=>false
end NP
namespace Go.Proofs.YtjapjahfllomkaaGreatDoor
open NQ Go NP Go.RowKit
theorem xq(a b:Bs):NQ.Fn cx 299 [.str a,.str b] (.d (.int .i64 (cy a b).1)) []:=by
 refine aA aO mixed Tryz.func299 (by kernel_rfl) rfl (ah rfl) ?_;conv=>whnf
 (refine⟨_,_,oU a b,?_⟩;conv=>whnf)
 exact af rfl rfl
theorem Cg(a b:Bs):NQ.Fn cx 257 [.str a,.str b] (.d (.bool (bz a b).1)) []:=by
 refine aA aO mixed Tryz.func257 (by kernel_rfl) rfl (ah rfl) ?_;conv=>whnf
 (refine⟨_,_,pL a b,?_⟩;conv=>whnf)
 exact af rfl rfl
theorem KH(n c:Nat)(x y:D)(hn:n<=100000)(hc:c<=n)(hf:∀i:Nat,i<n->NQ.Fn cx 298 [.int .i64 i,x,y] (.d (.bool (decide (c<=i)))) []) :
 NQ.Fn cx 297 [.int .i64 n,.fn 298 [] [x,y]] (.d (.int .i64 c)) []:=by
 refine aA aO mixed Tryz.func297 (by kernel_rfl) rfl (ah rfl) ?_;conv=>whnf
 refine⟨Nat×Nat,λz=>⟨[(1,.d (.fn 298 [] [x,y])),(5,.d (.int .i64 z.1)),(6,.d (.int .i64 z.2))],[]⟩,λz=>z.1<=c/\c<=z.2/\z.2<=n,λz=>z.2-z.1,
  ⟨(0,n),⟨Nat.zero_le _,hc,Nat.le_refl _⟩,aj.keep ⟨ab,ab,ab,trivial⟩ trivial⟩,?_⟩
 rintro⟨i,j⟩ ⟨h1,h2,h3⟩;simp only at h1 h2 h3
 conv=>whnf
 refine ae (λhlt=>?_) (λhlt=>?_) <;> (rw[hlt];conv=>whnf)
 . have hij:i<j:=by simp at hlt;omega
   rw[EY (by omega)]
   (refine⟨_,_,hf ((i+j) / 2) (by omega),?_⟩;conv=>whnf)
   refine ae (λh=>?_) (λh=>?_) <;> (rw[h];conv=>whnf)
   . have hlt:(i+j) / 2<c:=by simp at h;omega
     exact⟨((i+j) / 2+1,j),⟨hlt,h2,h3⟩,by(show j-((i+j) / 2+1)<j-i;omega),aj.keep ⟨ab,⟨ao (by omega),rfl⟩,ab,trivial⟩ trivial⟩
   . have hle:c<=(i+j) / 2:=by simp at h;omega
     exact⟨(i,(i+j) / 2),⟨h1,hle,by(show(i+j) / 2<=n;omega)⟩,by(show(i+j) / 2-i<j-i;omega),aj.keep ⟨ab,ab,ab,trivial⟩ trivial⟩
 . obtain rfl:i=c:=by simp at hlt;omega
   exact af rfl rfl
theorem KI(n c:Nat)(x y:D)(hn:n<=100000)(hc:c<=n)(hf:∀i:Nat,i<n->NQ.Fn cx 314 [.int .i64 i,x,y] (.d (.bool (decide (c<=i)))) []) :
 NQ.Fn cx 297 [.int .i64 n,.fn 314 [] [x,y]] (.d (.int .i64 c)) []:=by
 refine aA aO mixed Tryz.func297 (by kernel_rfl) rfl (ah rfl) ?_;conv=>whnf
 refine⟨Nat×Nat,λz=>⟨[(1,.d (.fn 314 [] [x,y])),(5,.d (.int .i64 z.1)),(6,.d (.int .i64 z.2))],[]⟩,λz=>z.1<=c/\c<=z.2/\z.2<=n,λz=>z.2-z.1,
  ⟨(0,n),⟨Nat.zero_le _,hc,Nat.le_refl _⟩,aj.keep ⟨ab,ab,ab,trivial⟩ trivial⟩,?_⟩
 rintro⟨i,j⟩ ⟨h1,h2,h3⟩;simp only at h1 h2 h3
 conv=>whnf
 refine ae (λhlt=>?_) (λhlt=>?_) <;> (rw[hlt];conv=>whnf)
 . have hij:i<j:=by simp at hlt;omega
   rw[EY (by omega)]
   (refine⟨_,_,hf ((i+j) / 2) (by omega),?_⟩;conv=>whnf)
   refine ae (λh=>?_) (λh=>?_) <;> (rw[h];conv=>whnf)
   . have hlt:(i+j) / 2<c:=by simp at h;omega
     exact⟨((i+j) / 2+1,j),⟨hlt,h2,h3⟩,by(show j-((i+j) / 2+1)<j-i;omega),aj.keep ⟨ab,⟨ao (by omega),rfl⟩,ab,trivial⟩ trivial⟩
   . have hle:c<=(i+j) / 2:=by simp at h;omega
     exact⟨(i,(i+j) / 2),⟨h1,hle,by(show(i+j) / 2<=n;omega)⟩,by(show(i+j) / 2-i<j-i;omega),aj.keep ⟨ab,ab,ab,trivial⟩ trivial⟩
 . obtain rfl:i=c:=by simp at hlt;omega
   exact af rfl rfl
theorem jz(v:View)(n:Bs)(t:Int):NQ.Fn cx 256 [.ptr (de v),.str n,.int .i64 t] (.d (.int .i64 (atI v.sets ⟨n,t⟩))) []:=by
 refine aA aO mixed Tryz.func256 (by kernel_rfl) rfl (ah rfl) ?_;conv=>whnf
 have hk:=Bj ⟨n,t⟩ v.sets 0;unfold atI;cases hf:v.sets.findIdx? (is ⟨n,t⟩)with
 |some k =>
  rw[hf]at hk;refine⟨some (.int .i64 k),by rw[Option.map_some,Nat.zero_add]at hk;exact hk,?_⟩
  conv=>whnf
  exact af rfl rfl
 |none =>
  rw[hf]at hk;refine⟨none,hk,?_⟩
  conv=>whnf
  exact af rfl rfl
theorem ue(v:View):NQ.Fn cx 260 [.ptr (de v)] (.d (.int .i64 (atI v.sets ⟨v.apex,4⟩))) []:=by
 refine aA aO mixed Tryz.func260 (by kernel_rfl) rfl (ah rfl) ?_;conv=>whnf
 (refine⟨_,_,jz v v.apex 4,?_⟩;conv=>whnf)
 exact af rfl rfl
theorem JF(v:View)(n:Bs)(i:Nat)(s:Signed)(hs:v.sets[i]? =some s):NQ.Fn cx 298 [.int .i64 i,.ptr [.ptr (de v)],.ptr [.str n]] (.d (.bool (decide ((cy s.set.name n).1>=0)))) []:=by
 refine aA aO mixed Tryz.func298 (by kernel_rfl) rfl (ah rfl) ?_;conv=>whnf
 (refine⟨(by kernel_rfl:bf _ _=true),?_⟩;conv=>whnf)
 refine⟨av i,az s,aC hs,?_⟩
 conv=>whnf
 (refine⟨_,_,xq s.set.name n,?_⟩;conv=>whnf)
 exact af rfl rfl
theorem vd(v:View)(n:Bs)(hn:v.sets.length<=100000)(hr:ee v.sets)(hv:∀s∈v.sets,au s.set.name=true)(hvn:au n=true):NQ.Fn cx 259 [.ptr (de v),.str n] (.d (.bool (exB v.sets n))) []:=by
 refine aA aO mixed Tryz.func259 (by kernel_rfl) rfl (ah rfl) ?_;conv=>whnf
 have hp:=qV hr;have hle:=Sn v.sets n;have hS:=KH v.sets.length (rX v.sets n) (.ptr [.ptr (de v)]) (.ptr [.str n]) hn hle (λi hi=>by
  obtain⟨s,hs⟩:∃s,v.sets[i]? =some s:=⟨_,ag hi⟩
  have h:=JF v n i s hs;have e:decide ((cy s.set.name n).1>=0)=decide (rX v.sets n<=i):=by
   have hc:(cy s.set.name n).1=aI s.set.name n:=by unfold cy;rw[if_pos ⟨hv s (aq hs),hvn⟩]
   rw[hc,decide_eq_decide];exact(Fv hp hs).symm
  rwa [e]at h)
 have hl:((v.sets.map az).length:Int)=(v.sets.length:Int):=by rw[ak]
 rw[hl];refine⟨_,hS,rfl,?_⟩
 conv=>whnf
 (refine⟨(by kernel_rfl:bf _ _=true),?_⟩;conv=>whnf)
 rw[hl];unfold exB;cases hg:v.sets[rX v.sets n]? with
 |none =>
  have:decide (((rX v.sets n:Nat):Int)<(v.sets.length:Int))=false:=by
   rw[List.getElem?_eq_none_iff]at hg;rw[decide_eq_false];omega
  rw[this]
  conv=>whnf
  exact af rfl rfl
 |some s =>
  have:decide (((rX v.sets n:Nat):Int)<(v.sets.length:Int))=true:=by
   have:=(ar.1 hg).1;rw[decide_eq_true];omega
  rw[this]
  conv=>whnf
  refine⟨av _,az s,aC hg,?_⟩
  conv=>whnf
  (refine⟨_,_,Cg s.set.name n,?_⟩;conv=>whnf)
  exact af rfl rfl
theorem Pt(l:List Int)(x:Int)(hl:l.length<=100000):NQ.Fn cx 312 [.slice 1 (l.map bd),.int .i64 x] (.d (.int .i64 (match l.findIdx? (· ==x)with|some k=>(k:Int)|none=> -1))) []:=by
 refine aA aO mixed Tryz.func312 (by kernel_rfl) rfl (ah rfl) ?_;conv=>whnf
 refine⟨Nat,λk=>⟨[(0,.d (.slice 1 (l.map bd))),(1,.d (.int .i64 x)),(7,.d (.int .i64 ((l.map bd).length:Int))),(8,.d (.int .i64 k))],[]⟩,λk=>k<=l.length/\ ∀j y,j<k->l[j]? =some y->(y==x)=false,λk=>l.length-k,
  ⟨0,⟨by omega,λj y h=>by omega⟩,aj.keep ⟨ab,ab,ab,ab,trivial⟩ trivial⟩,λk ⟨hk,hall⟩=>?_⟩
 conv=>whnf
 refine ae (λh1=>?_) (λh1=>?_) <;> (rw[h1];conv=>whnf)
 . have hlt:k<l.length:=by simp at h1;omega
   obtain⟨y,hy⟩:∃s,l[k]? =some s:=⟨_,ag hlt⟩
   refine⟨av k,bd y,aC hy,?_⟩
   conv=>whnf
   (refine ae (λh=>?_) (λh=>?_) <;> (rw[h];conv=>whnf))
   . refine af rfl ?_;have:l.findIdx? (· ==x)=some k:=by
      rw[List.findIdx?_eq_some_iff_getElem];refine⟨hlt,?_,λj hj=>?_⟩
      . obtain⟨_,e⟩:=ar.1 hy;rw[e];simp at h ⊢;exact h.symm
      . have:=hall j l[j] hj (ag (by omega));simpa using this
     rw[this];rfl
   . refine⟨k+1,⟨hlt,λj z hj hz=>?_⟩,by(show l.length-(k+1)<l.length-k;omega),aj.keep ⟨ab,ab,ab,⟨ao (by omega),rfl⟩,trivial⟩ trivial⟩;rcases Nat.lt_or_eq_of_le (Nat.le_of_lt_succ hj)with h2|rfl
     . exact hall j z h2 hz
     . rw[hy]at hz;cases hz;simp at h ⊢;exact λe=>h e.symm
 . obtain rfl:k=l.length:=by simp at h1;omega
   refine af rfl ?_;have:l.findIdx? (· ==x)=none:=by
    rw[List.findIdx?_eq_none_iff];intro y hy;obtain⟨j,hj⟩:=cm hy;exact hall j y (ar.1 hj).1 hj
   rw[this];rfl
theorem Gt(l:List Int)(x:Int)(hl:l.length<=100000):NQ.Fn cx 296 [.slice 1 (l.map bd),.int .i64 x] (.d (.bool (l.contains x))) []:=by
 refine aA aO mixed Tryz.func296 (by kernel_rfl) rfl (ah rfl) ?_;conv=>whnf
 (refine⟨_,_,Pt l x hl,?_⟩;conv=>whnf)
 refine af rfl ?_;show AV.d (D.bool (decide ((match l.findIdx? (· ==x)with|some k=>(k:Int)|none=> -1)>=0)))=_
 congr 2
 cases h:l.findIdx? (· ==x)with
 |some k =>
  obtain⟨h1,h2,_⟩:=List.findIdx?_eq_some_iff_getElem.1 h;have:l.contains x=true:=by
   rw[df];have e:l[k]=x:=by simpa using h2
   exact e ▸ List.getElem_mem h1
  rw[this,decide_eq_true];exact av k
 |none =>
  have:l.contains x=false:=by
   rw[<- Bool.not_eq_true,df];intro hm;have:=List.findIdx?_eq_none_iff.1 h x hm;simp at this
  rw[this];rfl
end Go.Proofs.YtjapjahfllomkaaGreatDoor
namespace NP
open NQ Go
structure Ans where
 kind:Int
 sets:List Signed
 cut:Bs
 deriving DecidableEq
def ia(a:Ans):List D:=[.int .i64 a.kind,.slice 5 (a.sets.map az),.str a.cut]
def db(l:List Signed):List Int->List Int->List Signed
 |_,[]=>[]
 |seen,p::t=>if (decide (p<0)||seen.contains p)=true then db l (seen++[p]) t else(l[p.toNat]?).getD wk::db l (seen++[p]) t
end NP
namespace Go.Proofs.YtjapjahfllomkaaGreatDoor
open NQ Go NP Go.RowKit
theorem KE(l:List Int)(k:Nat):((l.map bd).drop ((0:Nat):Int).toNat).take (((k:Nat):Int).toNat-((0:Nat):Int).toNat)=(l.take k).map bd:=by
 simp[List.map_take]
theorem iF(v:View)(kind:Int)(ps:List Int)(hn:ps.length<=1000)(hp:∀p∈ps,p<v.sets.length)(hs:∀s∈v.sets,Small s) :
 FnB cx 258 (de v) [.int .i64 kind,.slice 1 (ps.map bd)] (.agg ((ia ⟨kind,db v.sets [] ps,[]⟩).map .d)) (de v):=by
 refine gK (λ_=>[]) aO mixed Tryz.func258 (by kernel_rfl) rfl (ah rfl) (ah rfl) ?_;conv=>whnf
 refine ⟨Nat × List Signed, fun x => ⟨[(0, .ptr 100000 0), (2, .d (.slice 1 (ps.map bd))), (6, .ptr 6 0), (7, .ptr 7 0), (13, .d (.slice 1 (ps.map bd))), (14, .d (.int .i64 ((ps.map bd).length : Int))), (15, .d (.int .i64 x.1))],
     [(100000,.box ((de v).map .d)),(6,.box [.d (.int .i64 0),.nil 5,.d (.str [])]),(7,.box [.d (.int .i64 kind),.own 200,.d (.str [])]),(200,.row 74 5 (x.2.map az))]⟩,
  λx=>x.1<=ps.length/\x.2.length<=x.1/\x.2++db v.sets (ps.take x.1) (ps.drop x.1)=db v.sets [] ps,λx=>ps.length-x.1,
  ⟨(0,[]),⟨by omega,by simp,by simp⟩,(aj.mU 7 1 200 5 [.d (.int .i64 kind),.nil 5,.d (.str [])] 74 5 rfl rfl rfl (by decide)).trans (aj.keep ⟨ab,ab,ab,ab,ab,ab,ab,trivial⟩ ⟨ab,ab,ab,ab,trivial⟩)⟩,?_⟩
 rintro⟨k,acc⟩ ⟨hk,hl,hc⟩;simp only at hk hl hc
 conv=>whnf
 refine ae (λh1=>?_) (λh1=>?_) <;> (rw[h1];conv=>whnf)
 . have hlt:k<ps.length:=by simp at h1;omega
   obtain⟨p,hpk⟩:∃p,ps[k]? =some p:=⟨_,ag hlt⟩
   rw[drop_cons hpk,db, <- bg hpk]at hc;refine⟨av k,bd p,aC hpk,?_⟩
   conv=>whnf
   have skip:(decide (p<0)||(ps.take k).contains p)=true-> ∀st,aj cx st ⟨[(0,.ptr 100000 0),(2,.d (.slice 1 (ps.map bd))),(6,.ptr 6 0),(7,.ptr 7 0),(13,.d (.slice 1 (ps.map bd))),(14,.d (.int .i64 ((ps.map bd).length:Int))),(15,.d (.int .i64 ((k+1:Nat):Int)))],
    [(100000,.box ((de v).map .d)),(6,.box [.d (.int .i64 0),.nil 5,.d (.str [])]),(7,.box [.d (.int .i64 kind),.own 200,.d (.str [])]),(200,.row 74 5 (acc.map az))]⟩ ->
    ∃y:Nat×List Signed,(y.1<=ps.length/\y.2.length<=y.1/\y.2++db v.sets (ps.take y.1) (ps.drop y.1)=db v.sets [] ps)/\ps.length-y.1<ps.length-k/\aj cx st ⟨[(0,.ptr 100000 0),(2,.d (.slice 1 (ps.map bd))),(6,.ptr 6 0),(7,.ptr 7 0),(13,.d (.slice 1 (ps.map bd))),(14,.d (.int .i64 ((ps.map bd).length:Int))),(15,.d (.int .i64 y.1))],
    [(100000,.box ((de v).map .d)),(6,.box [.d (.int .i64 0),.nil 5,.d (.str [])]),(7,.box [.d (.int .i64 kind),.own 200,.d (.str [])]),(200,.row 74 5 (y.2.map az))]⟩:=λhb st hw=>by
    rw[if_pos hb]at hc;exact⟨(k+1,acc),⟨hlt,by(show acc.length<=k+1;omega),hc⟩,by(show ps.length-(k+1)<ps.length-k;omega),hw⟩
   (refine ae (λh=>?_) (λh=>?_) <;> (rw[h];conv=>whnf))
   . exact skip (by rw[h];rfl) _ (aj.keep ⟨ab,ab,ab,ab,ab,ab,⟨ao (by omega),rfl⟩,trivial⟩ ⟨ab,ab,ab,ab,trivial⟩)
   have hp0:=h;refine⟨by omega,by omega,by(rw[ak];omega),?_⟩
   conv=>whnf
   rw[KE]
   (refine⟨_,_,Gt (ps.take k) p (by(rw[List.length_take];omega)),?_⟩;conv=>whnf)
   (refine ae (λh=>?_) (λh=>?_) <;> (rw[h];conv=>whnf))
   . exact skip (by rw[h,CN]) _ (aj.keep ⟨ab,ab,ab,ab,ab,ab,⟨ao (by omega),rfl⟩,trivial⟩ ⟨ab,ab,ab,ab,trivial⟩)
   have hge:0<=p:=by simp at hp0;omega
   have hplt:=hp p (aq hpk);obtain⟨s,hsp⟩:∃s,v.sets[p.toNat]? =some s:=⟨_,ag (by omega)⟩
   have hsm:=hs s (aq hsp);rw[if_neg (by rw[hp0,h];simp),hsp]at hc;refine⟨hge,az s,by(rw[aQ,hsp];rfl),?_⟩
   conv=>whnf
   (refine⟨_,_,uL _ (by simpa using hsm.1),?_⟩;conv=>whnf)
   (refine⟨_,_,uM _ (by simpa using hsm.2),?_⟩;conv=>whnf)
   refine⟨by(show(acc.map az).length+1<=_;rw[ak];omega),by(show((acc.map az).length+1)*80<=_;rw[ak];omega),?_⟩
   conv=>whnf
   refine⟨(k+1,acc++[s]),⟨hlt,by(simp;omega),by(rw[<- hc];simp)⟩,by(show ps.length-(k+1)<ps.length-k;omega),aj.keep ⟨ab,ab,ab,ab,ab,ab,⟨ao (by omega),rfl⟩,trivial⟩ ⟨ab,ab,ab,⟨by(show some (Blk.row _ _ (_++_))=some (Blk.row _ _ _);rw[List.map_append];rfl),rfl⟩,trivial⟩⟩
 . obtain rfl:k=ps.length:=by simp at h1;omega
   rw[List.drop_length,db,List.append_nil]at hc;refine⟨[200],_,_,rfl,?_,rfl,rfl⟩;rw[<- hc];rfl
end Go.Proofs.YtjapjahfllomkaaGreatDoor
namespace NP
open NQ Go
end NP
namespace Go.Proofs.YtjapjahfllomkaaGreatDoor
open NQ Go NP Go.RowKit
theorem xB(z:aF)(hv:aY z=true):NQ.Fn cx 65 [.agg (aW z)] (.d (.int .i64 (gz z))) []:=by
 have ho:=bC hv;have hfew:=ho.few;refine aA aO mixed Tryz.func65 (by kernel_rfl) rfl (ah rfl) ?_;conv=>whnf
 obtain⟨k,s,hk,hs,hp⟩:=zj (dq.1 hv).start;have fA:=Dl z ⟨z.apex,4⟩ (by omega);rw[hk]at fA;obtain⟨d,hd⟩:=qX (ho.set s (aq hs));have e:gz z=d.n:=by
  unfold gz;rw[SP ho.rising.pw hs hp,hs];simp only[hd]
 (refine⟨(by kernel_rfl:bf _ _=true),?_⟩;conv=>whnf)
 (refine⟨_,_,fA,?_⟩;conv=>whnf)
 refine⟨av k,az s,aC hs,?_⟩
 conv=>whnf
 refine⟨by decide,bt d,by(show(s.set.data.map bt)[(0:Int).toNat]? =_;simp[hd]),?_⟩
 conv=>whnf
 exact af rfl (by rw[e];rfl)
end Go.Proofs.YtjapjahfllomkaaGreatDoor
