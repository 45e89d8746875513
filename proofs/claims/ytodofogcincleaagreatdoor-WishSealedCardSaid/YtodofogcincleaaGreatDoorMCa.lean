/-
  Merged texts.
-/
import Derived.Test.YtodofogcincleaaGreatDoorMVa
import Derived.Lib.SlicesDelete
import Derived.Test.YtodofogcincleaaGreatDoorMDc
set_option linter.all false
set_option maxRecDepth 100000
namespace NP
open NQ Go
def iL:Signed:=⟨⟨[],0,0,[]⟩,[]⟩
def Small(s:Signed):Prop:=s.set.data.length<=100000/\s.sigs.length<=100000
theorem Hw{α:Type}{l:List α}{k n:Nat}{x z:α}(hk:l[k]? =some x)(hn:l.length=n):(l.take k++List.replicate (n-k) z).set k x=l.take (k+1)++List.replicate (n-(k+1)) z:=by
 have hlt:k<l.length:=(aq.1 hk).1;have h1:(l.take k).length=k:=by simp;omega
 rw[List.set_append_right _ _ (by omega),h1,Nat.sub_self,show n-k=(n-(k+1))+1 by omega,List.replicate_succ,List.set_cons_zero,bU hk,List.append_assoc];rfl
def PA(z:aB)(q:dz):Signed×Bool×Int :=
 if (!ED q|| !aR z)=true then(iL,false,1)else if (!jA z.sets q)=true then(iL,false,0)else((z.sets[posOf z.sets q]?).getD iL,true,0)
theorem uN{l:List Sig}{a:Bs}(h:kP l a=true):l.length<=6:=by
 simp[kP]at h;omega
theorem ni{s:ck}(h:dG s=true):s.data.length<=8:=by
 unfold dG at h;simp only[aH,Bool.not_eq_true',Bool.or_eq_false_iff,Bool.not_eq_false']at h;have:=h.1.1.2;simp[within]at this;omega
theorem ko{z:aB}(h:aR z=true):∀s∈z.sets,Small s:=λs hs=>by
 have ho:=bT h;refine⟨by have:=ni (ho.set s hs);omega,?_⟩;simp only[aR,aH]at h;have hf:=h.2.2;simp only[qF,ay]at hf;obtain⟨i,hi,rfl⟩:=List.getElem_of_mem hs;have:=hf i (List.mem_range.2 hi);simp only[nR,aj hi]at this;have:=uN this;omega
end NP
namespace Go.Proofs.YtodofogcincleaaGreatDoor
open NQ Go NP Go.RowKit
theorem mS(rows:List (List D))(hl:rows.length<=100000):NQ.Fn cx 46 [.slice 3 rows] (.d (.slice 3 rows)) []:=by
 refine aM aV mixed Tryz.func46 (by kernel_rfl) rfl (ag rfl) ?_;conv=>whnf
 refine⟨λh=>?_,?_⟩
 . refine al rfl ?_;rw[List.isEmpty_iff.1 h];rfl
 . conv=>whnf
   refine⟨by(show 0+rows.length<=_;omega),by(show(0+rows.length)*32<=_;omega),?_⟩
   conv=>whnf
   exact al rfl rfl
theorem uc(rows:List (List D))(hl:rows.length<=100000):NQ.Fn cx 194 [.slice 6 rows] (.d (.slice 6 rows)) []:=by
 refine aM aV mixed Tryz.func194 (by kernel_rfl) rfl (ag rfl) ?_;conv=>whnf
 refine⟨λh=>?_,?_⟩
 . refine al rfl ?_;rw[List.isEmpty_iff.1 h];rfl
 . conv=>whnf
   refine⟨by(show 0+rows.length<=_;omega),by(show(0+rows.length)*56<=_;omega),?_⟩
   conv=>whnf
   exact al rfl rfl
end Go.Proofs.YtodofogcincleaaGreatDoor
namespace NP
open NQ Go
def hU:aB:=⟨[],[]⟩
def qOf(s:Signed):dz:=⟨s.set.name,s.set.type⟩
def SG(l:List Signed)(i:Nat)(s:Signed):List Signed:=l.take i++[s]++l.drop i
def Jy(l:List Signed)(s:Signed):List Signed:=if jA l (qOf s)=true then l.set (posOf l (qOf s)) s else SG l (posOf l (qOf s)) s
def EC(z:aB)(s:Signed):aB:=⟨z.apex,Jy z.sets s⟩
end NP
namespace Go.Proofs.YtodofogcincleaaGreatDoor
open NQ Go NP Go.RowKit
end Go.Proofs.YtodofogcincleaaGreatDoor
namespace NP
open NQ Go
theorem HO{z:aB}{i:Nat}{s:Signed}(h:z.sets[i]? =some s)(ho:Ordered z):(dh z)[i]? =some (spec (dv z) s.set.name):=by
 rw[<- KC ho,tX ho,aN,h];rfl
theorem Kc{a b:Bs}(h:bK a b=true)(k:bK b a=true):a=b:=by
 rw[lB]at *;exact xk ((k.eq_of_length (Nat.le_antisymm k.length_le h.length_le)))
theorem Dm(p:Bs×Int):cpl p p=0:=(jY.zero _ _).2 rfl
theorem ui{a b:Bs×Int}(h:cpl a b<0):a≠b:=λe=>by subst e;rw[Dm]at h;omega
abbrev RP(l:List Signed):Prop:=l.Pairwise λa b=>cpl a.place b.place<0
theorem gu.pw:∀{l:List Signed},gu l->RP l
 |[],_=>List.Pairwise.nil
 |x::t,h=>List.Pairwise.cons (mL h) h.tail.pw
theorem RP.uniq:∀{l:List Signed},RP l-> ∀{a b:Signed},a∈l->b∈l->a.place=b.place->a=b
 |[],_,_,_,ha,_,_=>by cases ha
 |x::l,h,a,b,ha,hb,e=>by
  obtain⟨h1,h2⟩:=List.pairwise_cons.1 h;rcases List.mem_cons.1 ha with ha' |ha' <;> rcases List.mem_cons.1 hb with hb' |hb'
  . rw[ha',hb']
  . subst ha';exact(ui (h1 b hb') e).elim
  . subst hb';exact(ui (h1 a ha') e.symm).elim
  . exact RP.uniq h2 ha' hb' e
theorem Qs{l:List Signed}{q:dz}:jA l q=true ↔ ∃s∈l,s.place=q.place:=by
 simp only[jA,List.any_eq_true,uO]
def rem(q:dz)(l:List Signed):List Signed:=l.filter λx=> !is q x
theorem ve{s:ck}(h:dG s=true):1<=s.type/\s.type<=8:=by
 unfold dG at h;simp only[aH,Bool.not_eq_true',Bool.or_eq_false_iff,Bool.not_eq_false']at h;have:=h.1.1.1.1.2;simp[within]at this;exact this
theorem AS{z:aB}(ho:Ordered z):aliases z=true ↔ ∀s∈z.sets,∀x∈z.sets,s.set.type=3->x.set.name=s.set.name->x.set.type=3\/x.set.type=8:=by
 unfold aliases;rw[ay];constructor
 . intro h s hs x hx h3 hn;obtain⟨i,hi⟩:=cd hs;obtain⟨j,hj⟩:=cd hx;have hil:=(aq.1 hi).1;have hjl:=(aq.1 hj).1;obtain⟨p,hp⟩:∃p,z.sets[i-1]? =some p:=⟨_,aj (by omega)⟩
   have hok:=h i (List.mem_range.2 hil);refine Decidable.byContradiction λhno=>?_
   have hne3:x.set.type≠3:=λe=>hno (.inl e)
   have hne8:x.set.type≠8:=λe=>hno (.inr e)
   have hbad:nO z i=false:=by
    refine(CM hi hp).2 ⟨h3,?_⟩;rcases Nat.lt_trichotomy j i with hlt|heq|hgt
    . left
      refine⟨by omega,?_⟩;rcases Nat.lt_or_eq_of_le (show j<=i-1 by omega)with k|k
      . have a1:=(nG (jl ho.rising k hj hp)).1;have a2:=(nG (jl ho.rising (show i-1<i by omega) hp hi)).1;rw[hn]at a1;exact(Pw a1 a2).symm
      . rw[<- k,hj]at hp;cases hp;exact hn
    . subst heq;rw[hi]at hj;cases hj;exact absurd h3 hne3
    . right
      rcases Nat.lt_or_eq_of_le (show i+1<=j by omega)with k|k
      . obtain⟨y,hy⟩:∃y,z.sets[i+1]? =some y:=⟨_,aj (by omega)⟩
        have a1:=nG (jl ho.rising k hy hj);have a2:=(nG (jl ho.rising (show i<i+1 by omega) hi hy)).1;have hyn:y.set.name=s.set.name:=by
         have:=a1.1;rw[hn]at this;exact Pw this a2
        refine⟨y,hy,hyn,?_⟩;have:=a1.2 (hyn.trans hn.symm);have:=(ve (ho.set x hx)).2;omega
      . exact⟨x,by rw[k];exact hj,hn,hne8⟩
   rw[hbad]at hok;cases hok
 . intro h i hi;have hil:=List.mem_range.1 hi;obtain⟨s,hs⟩:∃s,z.sets[i]? =some s:=⟨_,aj hil⟩
   obtain⟨p,hp⟩:∃p,z.sets[i-1]? =some p:=⟨_,aj (by omega)⟩
   cases hb:nO z i with
   |true=>rfl
   |false =>
    obtain⟨h3,k⟩:=(CM hs hp).1 hb;have hsm:=ar hs;rcases k with ⟨k1,k2⟩|⟨x,k1,k2,k3⟩
    . have:=(nG (jl ho.rising (show i-1<i by omega) hp hs)).2 k2;rcases h s hsm p (ar hp) h3 k2 with e|e <;> omega
    . have:=(nG (jl ho.rising (show i<i+1 by omega) hs k1)).2 k2.symm;rcases h s hsm x (ar k1) h3 k2 with e|e
      . omega
      . exact absurd e k3
theorem lZ{α:Type}{l:List α}{p:Nat->Bool}{q:α->Bool}(h:∀i s,l[i]? =some s->p i=q s):(List.range l.length).all p=true ↔ ∀s∈l,q s=true:=by
 rw[ay];constructor
 . intro k s hs;obtain⟨i,hi⟩:=cd hs;rw[<- h i s hi];exact k i (List.mem_range.2 (aq.1 hi).1)
 . intro k i hi;have hi:=List.mem_range.1 hi;rw[h i _ (aj hi)];exact k _ (List.getElem_mem hi)
theorem Ordered.bool{z:aB}(h:Ordered z):ordered z=true:=by
 unfold ordered;have hall:(List.range z.sets.length).all (qR z)=true:=by
  rw[ay];intro i hi;have hi:=List.mem_range.1 hi;obtain⟨s,hs⟩:∃s,z.sets[i]? =some s:=⟨_,aj hi⟩
  obtain⟨p,hp⟩:∃p,z.sets[i-1]? =some p:=⟨_,aj (by omega)⟩
  have hsm:=ar hs;have hpm:=ar hp;rw[qg hs hp,lO,h.set s hsm,h.under s hsm,sG _ _ (h.name p hpm) (h.name s hsm)];by_cases h0:i=0
  . subst h0;rfl
  . have:=jl h.rising (show i-1<i by omega) hp hs;have e:cpl (p.set.name,p.set.type) (s.set.name,s.set.type)<0:=this;have e2:¬cpl (p.set.name,p.set.type) (s.set.name,s.set.type)>=0:=by omega
    simp[e2]
 have hf:¬((z.sets.length:Int)>20000):=by have:=h.few;omega
 rw[hall,h.apex,h.tame];simp[hf]
structure Val(z:aB):Prop where
 ord:Ordered z
 start:jA z.sets ⟨z.apex,4⟩=true
 serv:jA z.sets ⟨z.apex,2⟩=true
 fit:∀s∈z.sets,fits s.set.type (s.set.name==z.apex)=true
 ali:∀s∈z.sets,∀x∈z.sets,s.set.type=3->x.set.name=s.set.name->x.set.type=3\/x.set.type=8
 cut:∀s∈z.sets,pN s (spec (dv z) s.set.name)=false
 sig:∀s∈z.sets,qj s (spec (dv z) s.set.name)=false
 form:∀s∈z.sets,kP s.sigs z.apex=true
theorem GS(z:aB):(List.range z.sets.length).all (qE z)=true ↔ ∀s∈z.sets,fits s.set.type (s.set.name==z.apex)=true :=
 lZ λi s h=>by unfold qE;rw[h]
theorem DI(z:aB):qF z=true ↔ ∀s∈z.sets,kP s.sigs z.apex=true :=
 lZ λi s h=>by unfold nR;rw[h]
theorem Bd{z:aB}(ho:Ordered z):sK z (dh z)=true ↔ ∀s∈z.sets,pN s (spec (dv z) s.set.name)=false:=by
 unfold sK;rw[lZ (q:=λs=> !pN s (spec (dv z) s.set.name)) λi s h=>by unfold cutAt;rw[HO h ho,h]];simp only[Bool.not_eq_true']
theorem BD{z:aB}(ho:Ordered z):tA z (dh z)=true ↔ ∀s∈z.sets,qj s (spec (dv z) s.set.name)=false:=by
 unfold tA;rw[lZ (q:=λs=> !qj s (spec (dv z) s.set.name)) λi s h=>by unfold tz;rw[HO h ho,h]];simp only[Bool.not_eq_true']
theorem we{z:aB}:aR z=true ↔ Val z:=by
 constructor
 . intro h;have ho:=bT h;unfold aR oU at h;simp only[aH]at h;obtain⟨⟨_,⟨⟨a1,a2⟩,a3⟩⟩,⟨⟨b1,b2⟩,b3⟩,b4⟩:=h;exact⟨ho,a1,a2,(GS z).1 a3,(AS ho).1 b1,(Bd ho).1 b2,(BD ho).1 b3,(DI z).1 b4⟩
 . intro h;unfold aR oU;dsimp only;rw[h.ord.bool,h.start,h.serv,(GS z).2 h.fit,(AS h.ord).2 h.ali,(Bd h.ord).2 h.cut,(BD h.ord).2 h.sig,(DI z).2 h.form];rfl
theorem OH{s:Signed}(h:dG s.set=true):ED (qOf s)=true:=by
 have h1:=lv h;have h2:=ve h;unfold ED qOf;simp only[h1,gZ,aH,decide_eq_true_eq];exact⟨h2.1,h2.2⟩
theorem dP{z:aB}(hv:aR z=true){s:Signed}(hs:s∈z.sets):PA z (qOf s)=(s,true,0):=by
 have ho:=bT hv;have hh:jA z.sets (qOf s)=true:=Qs.2 ⟨s,hs,rfl⟩;obtain⟨x,hx,hm,hp⟩:=NF ho (q:=qOf s) (ho.name s hs) hh;have e:=ho.rising.pw.uniq hm hs hp;subst e;unfold PA;rw[if_neg (by simp[OH (ho.set _ hs),hv]),if_neg (by simp[hh]),hx];rfl
theorem Pu{l:List Signed}{q:dz}(h:jA l q=true):∃(k:Nat) (s:Signed),atI l q=k/\l[k]? =some s/\s.place=q.place:=by
 unfold atI;cases hf:l.findIdx? (is q)with
 |none =>
  rw[List.findIdx?_eq_none_iff]at hf;unfold jA at h;rw[List.any_eq_true]at h;obtain⟨s,hs,e⟩:=h;rw[hf s hs]at e;cases e
 |some k =>
  obtain⟨h1,h2,_⟩:=List.findIdx?_eq_some_iff_getElem.1 hf;exact⟨k,l[k],rfl,aj h1,(uO q _).1 h2⟩
theorem KA{l:List Signed}(hl:RP l){q:dz}{k:Nat}{s:Signed}(hk:l[k]? =some s)(hp:s.place=q.place):posOf l q=k:=by
 unfold posOf;have h1:l=l.take k++s::l.drop (k+1):=by
  obtain⟨hlt,e⟩:=aq.1 hk
  conv=>lhs;rw[<- List.take_append_drop k l,List.drop_eq_getElem_cons hlt,e]
 have hlt:k<l.length:=(aq.1 hk).1;have h2:∀x∈l.take k,decide (cpl x.place q.place<0)=true:=λx hx=>by
  have hl' :=hl;rw[h1]at hl';have:=(List.pairwise_append.1 hl').2.2 x hx s (List.mem_cons_self ..);rw[<- hp];simpa using this
 conv=>lhs;rw[h1]
 rw[List.takeWhile_append_of_pos h2,List.takeWhile_cons,if_neg (by rw[hp,Dm];simp)];simp;omega
def ref(o:Bool)(s:Signed):Bool:=o||(s.set.type==2)
def mark(s:Signed)(o:Bool):Bs:=if ref o s=true then[]else s.set.name++[0]
end NP
namespace Go.Proofs.YtodofogcincleaaGreatDoor
open NQ Go NP Go.RowKit
theorem NW(l:List Int)(x:Int)(hl:l.length<=100000):NQ.Fn cx 188 [.slice 1 (l.map jB),.int .i64 x] (.d (.int .i64 (match l.findIdx? (· ==x)with|some k=>(k:Int)|none=> -1))) []:=by
 refine aM aV mixed Tryz.func188 (by kernel_rfl) rfl (ag rfl) ?_;conv=>whnf
 refine⟨Nat,λk=>⟨[(0,.d (.slice 1 (l.map jB))),(1,.d (.int .i64 x)),(7,.d (.int .i64 ((l.map jB).length:Int))),(8,.d (.int .i64 k))],[]⟩,λk=>k<=l.length/\ ∀j y,j<k->l[j]? =some y->(y==x)=false,λk=>l.length-k,
  ⟨0,⟨by omega,λj y h=>by omega⟩,aF.keep ⟨ae,ae,ae,ae,trivial⟩ trivial⟩,λk ⟨hk,hall⟩=>?_⟩
 conv=>whnf
 refine af (λh1=>?_) (λh1=>?_) <;> (rw[h1];conv=>whnf)
 . have hlt:k<l.length:=by simp at h1;omega
   obtain⟨y,hy⟩:∃s,l[k]? =some s:=⟨_,aj hlt⟩
   refine⟨aw k,jB y,aD hy,?_⟩
   conv=>whnf
   (refine af (λh=>?_) (λh=>?_) <;> (rw[h];conv=>whnf))
   . refine al rfl ?_;have:l.findIdx? (· ==x)=some k:=by
      rw[List.findIdx?_eq_some_iff_getElem];refine⟨hlt,?_,λj hj=>?_⟩
      . obtain⟨_,e⟩:=aq.1 hy;rw[e];simp at h ⊢;exact h.symm
      . have:=hall j l[j] hj (aj (by omega));simpa using this
     rw[this];rfl
   . refine⟨k+1,⟨hlt,λj z hj hz=>?_⟩,by(show l.length-(k+1)<l.length-k;omega),aF.keep ⟨ae,ae,ae,⟨an (by omega),rfl⟩,trivial⟩ trivial⟩;rcases Nat.lt_or_eq_of_le (Nat.le_of_lt_succ hj)with h2|rfl
     . exact hall j z h2 hz
     . rw[hy]at hz;cases hz;simp at h ⊢;exact λe=>h e.symm
 . obtain rfl:k=l.length:=by simp at h1;omega
   refine al rfl ?_;have:l.findIdx? (· ==x)=none:=by
    rw[List.findIdx?_eq_none_iff];intro y hy;obtain⟨j,hj⟩:=cd hy;exact hall j y (aq.1 hj).1 hj
   rw[this];rfl
theorem jX(l:List Int)(x:Int)(hl:l.length<=100000):NQ.Fn cx 121 [.slice 1 (l.map jB),.int .i64 x] (.d (.bool (l.contains x))) []:=by
 refine aM aV mixed Tryz.func121 (by kernel_rfl) rfl (ag rfl) ?_;conv=>whnf
 (refine⟨_,_,NW l x hl,?_⟩;conv=>whnf)
 refine al rfl ?_;show AV.d (D.bool (decide ((match l.findIdx? (· ==x)with|some k=>(k:Int)|none=> -1)>=0)))=_
 congr 2
 cases h:l.findIdx? (· ==x)with
 |some k =>
  obtain⟨h1,h2,_⟩:=List.findIdx?_eq_some_iff_getElem.1 h;have:l.contains x=true:=by
   rw[la];have e:l[k]=x:=by simpa using h2
   exact e ▸ List.getElem_mem h1
  rw[this,decide_eq_true];exact aw k
 |none =>
  have:l.contains x=false:=by
   rw[<- Bool.not_eq_true,la];intro hm;have:=List.findIdx?_eq_none_iff.1 h x hm;simp at this
  rw[this];rfl
end Go.Proofs.YtodofogcincleaaGreatDoor
namespace NP
open NQ Go
end NP
namespace Go.Proofs.YtodofogcincleaaGreatDoor
open NQ Go NP Go.RowKit
theorem lR(z:aB)(hv:aR z=true):NQ.Fn cx 11 [.agg (aG z)] (.d (.int .i64 (eP z))) []:=by
 have ho:=bT hv;have hfew:=ho.few;refine aM aV mixed Tryz.func11 (by kernel_rfl) rfl (ag rfl) ?_;conv=>whnf
 obtain⟨k,s,hk,hs,hp⟩:=Pu (we.1 hv).start;have fA:=Pt z ⟨z.apex,4⟩ (by omega);rw[hk]at fA;obtain⟨d,hd⟩:=vd (ho.set s (ar hs));have e:eP z=d.n:=by
  unfold eP;rw[KA ho.rising.pw hs hp,hs];simp only[hd]
 (refine⟨(by kernel_rfl:bC _ _=true),?_⟩;conv=>whnf)
 (refine⟨_,_,fA,?_⟩;conv=>whnf)
 refine⟨aw k,ak s,aD hs,?_⟩
 conv=>whnf
 refine⟨by decide,aI d,by(show(s.set.data.map aI)[(0:Int).toNat]? =_;simp[hd]),?_⟩
 conv=>whnf
 exact al rfl (by rw[e];rfl)
end Go.Proofs.YtodofogcincleaaGreatDoor
