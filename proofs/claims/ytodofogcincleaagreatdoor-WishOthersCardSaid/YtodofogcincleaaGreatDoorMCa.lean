/-
  Merged texts.
-/
import Derived.Test.YtodofogcincleaaGreatDoorMVa
import Derived.Lib.SlicesDelete
import Derived.Test.YtodofogcincleaaGreatDoorMDc
set_option linter.all false
set_option maxRecDepth 100000
namespace NP
open NQ Go
def iv:Signed:=⟨⟨[],0,0,[]⟩,[]⟩
def Small(s:Signed):Prop:=s.set.data.length<=100000/\s.sigs.length<=100000
theorem GM{α:Type}{l:List α}{k n:Nat}{x z:α}(hk:l[k]? =some x)(hn:l.length=n):(l.take k++List.replicate (n-k) z).set k x=l.take (k+1)++List.replicate (n-(k+1)) z:=by
 have hlt:k<l.length:=(aq.1 hk).1;have h1:(l.take k).length=k:=by simp;omega
 rw[List.set_append_right _ _ (by omega),h1,Nat.sub_self,show n-k=(n-(k+1))+1 by omega,List.replicate_succ,List.set_cons_zero,bK hk,List.append_assoc];rfl
def OU(z:aD)(q:dq):Signed×Bool×Int :=
 if (!DX q|| !aR z)=true then(iv,false,1)else if (!je z.sets q)=true then(iv,false,0)else((z.sets[posOf z.sets q]?).getD iv,true,0)
theorem ug{l:List Sig}{a:Bs}(h:ku l a=true):l.length<=6:=by
 simp[ku]at h;omega
theorem mD{s:cu}(h:dC s=true):s.data.length<=8:=by
 unfold dC at h;simp only[aF,Bool.not_eq_true',Bool.or_eq_false_iff,Bool.not_eq_false']at h;have:=h.1.1.2;simp[within]at this;omega
theorem jQ{z:aD}(h:aR z=true):∀s∈z.sets,Small s:=λs hs=>by
 have ho:=bX h;refine⟨by have:=mD (ho.set s hs);omega,?_⟩;simp only[aR,aF]at h;have hf:=h.2.2;simp only[pZ,ay]at hf;obtain⟨i,hi,rfl⟩:=List.getElem_of_mem hs;have:=hf i (List.mem_range.2 hi);simp only[nk,ai hi]at this;have:=ug this;omega
end NP
namespace Go.Proofs.YtodofogcincleaaGreatDoor
open NQ Go NP Go.RowKit
theorem mo(rows:List (List D))(hl:rows.length<=100000):NQ.Fn cx 46 [.slice 3 rows] (.d (.slice 3 rows)) []:=by
 refine aK aV mixed Tryz.func46 (by kernel_rfl) rfl (ag rfl) ?_;conv=>whnf
 refine⟨λh=>?_,?_⟩
 . refine aj rfl ?_;rw[List.isEmpty_iff.1 h];rfl
 . conv=>whnf
   refine⟨by(show 0+rows.length<=_;omega),by(show(0+rows.length)*32<=_;omega),?_⟩
   conv=>whnf
   exact aj rfl rfl
theorem tz(rows:List (List D))(hl:rows.length<=100000):NQ.Fn cx 194 [.slice 6 rows] (.d (.slice 6 rows)) []:=by
 refine aK aV mixed Tryz.func194 (by kernel_rfl) rfl (ag rfl) ?_;conv=>whnf
 refine⟨λh=>?_,?_⟩
 . refine aj rfl ?_;rw[List.isEmpty_iff.1 h];rfl
 . conv=>whnf
   refine⟨by(show 0+rows.length<=_;omega),by(show(0+rows.length)*56<=_;omega),?_⟩
   conv=>whnf
   exact aj rfl rfl
end Go.Proofs.YtodofogcincleaaGreatDoor
namespace NP
open NQ Go
def gJ:aD:=⟨[],[]⟩
def qOf(s:Signed):dq:=⟨s.set.name,s.set.type⟩
def Sc(l:List Signed)(i:Nat)(s:Signed):List Signed:=l.take i++[s]++l.drop i
def IJ(l:List Signed)(s:Signed):List Signed:=if je l (qOf s)=true then l.set (posOf l (qOf s)) s else Sc l (posOf l (qOf s)) s
def DW(z:aD)(s:Signed):aD:=⟨z.apex,IJ z.sets s⟩
end NP
namespace Go.Proofs.YtodofogcincleaaGreatDoor
open NQ Go NP Go.RowKit
end Go.Proofs.YtodofogcincleaaGreatDoor
namespace NP
open NQ Go
theorem PT{s:Bs}(h:aQ s=true):(bU s).length<=8:=by
 have:=qB h;simp[okL]at this;exact this.1
theorem GS{z:aD}{i:Nat}{s:Signed}(h:z.sets[i]? =some s)(ho:Ordered z):(cU z)[i]? =some (spec (dh z) s.set.name):=by
 rw[<- JR ho,tr ho,aM,h];rfl
theorem wx{a b c:Bs}(h:bd a b=true)(k:bd b c=true):bd a c=true:=by
 rw[js]at *; exact k.trans h
theorem zh{a b:Bs}(h:bd a b=true)(k:bd b a=true):a=b:=by
 rw[js]at *;exact wJ ((k.eq_of_length (Nat.le_antisymm k.length_le h.length_le)))
theorem uu{n:Bs}(hn:aQ n=true):bd n (cF n)=true:=by
 unfold bd;rw[qP hn];exact List.isSuffixOf_iff_suffix.2 (List.tail_suffix _)
theorem CL(p:Bs×Int):cpl p p=0:=(jJ.zero _ _).2 rfl
theorem Az{a b:Bs×Int}(h:cpl a b<0):a≠b:=λe=>by subst e;rw[CL]at h;omega
abbrev RP(l:List Signed):Prop:=l.Pairwise λa b=>cpl a.place b.place<0
theorem fP.pw:∀{l:List Signed},fP l->RP l
 |[],_=>List.Pairwise.nil
 |x::t,h=>List.Pairwise.cons (ma h) h.tail.pw
theorem RP.uniq:∀{l:List Signed},RP l-> ∀{a b:Signed},a∈l->b∈l->a.place=b.place->a=b
 |[],_,_,_,ha,_,_=>by cases ha
 |x::l,h,a,b,ha,hb,e=>by
  obtain⟨h1,h2⟩:=List.pairwise_cons.1 h;rcases List.mem_cons.1 ha with ha' |ha' <;> rcases List.mem_cons.1 hb with hb' |hb'
  . rw[ha',hb']
  . subst ha';exact(Az (h1 b hb') e).elim
  . subst hb';exact(Az (h1 a ha') e.symm).elim
  . exact RP.uniq h2 ha' hb' e
theorem PN{l:List Signed}{q:dq}:je l q=true ↔ ∃s∈l,s.place=q.place:=by
 simp only[je,List.any_eq_true,uh]
def rem(q:dq)(l:List Signed):List Signed:=l.filter λx=> !is q x
theorem uB{s:cu}(h:dC s=true):1<=s.type/\s.type<=8:=by
 unfold dC at h;simp only[aF,Bool.not_eq_true',Bool.or_eq_false_iff,Bool.not_eq_false']at h;have:=h.1.1.1.1.2;simp[within]at this;exact this
theorem Aq{z:aD}(ho:Ordered z):aliases z=true ↔ ∀s∈z.sets,∀x∈z.sets,s.set.type=3->x.set.name=s.set.name->x.set.type=3\/x.set.type=8:=by
 unfold aliases;rw[ay];constructor
 . intro h s hs x hx h3 hn;obtain⟨i,hi⟩:=ck hs;obtain⟨j,hj⟩:=ck hx;have hil:=(aq.1 hi).1;have hjl:=(aq.1 hj).1;obtain⟨p,hp⟩:∃p,z.sets[i-1]? =some p:=⟨_,ai (by omega)⟩
   have hok:=h i (List.mem_range.2 hil);refine Decidable.byContradiction λhno=>?_
   have hne3:x.set.type≠3:=λe=>hno (.inl e)
   have hne8:x.set.type≠8:=λe=>hno (.inr e)
   have hbad:nh z i=false:=by
    refine(Ck hi hp).2 ⟨h3,?_⟩;rcases Nat.lt_trichotomy j i with hlt|heq|hgt
    . left
      refine⟨by omega,?_⟩;rcases Nat.lt_or_eq_of_le (show j<=i-1 by omega)with k|k
      . have a1:=(mX (iS ho.rising k hj hp)).1;have a2:=(mX (iS ho.rising (show i-1<i by omega) hp hi)).1;rw[hn]at a1;exact(OQ a1 a2).symm
      . rw[<- k,hj]at hp;cases hp;exact hn
    . subst heq;rw[hi]at hj;cases hj;exact absurd h3 hne3
    . right
      rcases Nat.lt_or_eq_of_le (show i+1<=j by omega)with k|k
      . obtain⟨y,hy⟩:∃y,z.sets[i+1]? =some y:=⟨_,ai (by omega)⟩
        have a1:=mX (iS ho.rising k hy hj);have a2:=(mX (iS ho.rising (show i<i+1 by omega) hi hy)).1;have hyn:y.set.name=s.set.name:=by
         have:=a1.1;rw[hn]at this;exact OQ this a2
        refine⟨y,hy,hyn,?_⟩;have:=a1.2 (hyn.trans hn.symm);have:=(uB (ho.set x hx)).2;omega
      . exact⟨x,by rw[k];exact hj,hn,hne8⟩
   rw[hbad]at hok;cases hok
 . intro h i hi;have hil:=List.mem_range.1 hi;obtain⟨s,hs⟩:∃s,z.sets[i]? =some s:=⟨_,ai hil⟩
   obtain⟨p,hp⟩:∃p,z.sets[i-1]? =some p:=⟨_,ai (by omega)⟩
   cases hb:nh z i with
   |true=>rfl
   |false =>
    obtain⟨h3,k⟩:=(Ck hs hp).1 hb;have hsm:=au hs;rcases k with ⟨k1,k2⟩|⟨x,k1,k2,k3⟩
    . have:=(mX (iS ho.rising (show i-1<i by omega) hp hs)).2 k2;rcases h s hsm p (au hp) h3 k2 with e|e <;> omega
    . have:=(mX (iS ho.rising (show i<i+1 by omega) hs k1)).2 k2.symm;rcases h s hsm x (au k1) h3 k2 with e|e
      . omega
      . exact absurd e k3
theorem lA{α:Type}{l:List α}{p:Nat->Bool}{q:α->Bool}(h:∀i s,l[i]? =some s->p i=q s):(List.range l.length).all p=true ↔ ∀s∈l,q s=true:=by
 rw[ay];constructor
 . intro k s hs;obtain⟨i,hi⟩:=ck hs;rw[<- h i s hi];exact k i (List.mem_range.2 (aq.1 hi).1)
 . intro k i hi;have hi:=List.mem_range.1 hi;rw[h i _ (ai hi)];exact k _ (List.getElem_mem hi)
theorem Ordered.bool{z:aD}(h:Ordered z):ordered z=true:=by
 unfold ordered;have hall:(List.range z.sets.length).all (qo z)=true:=by
  rw[ay];intro i hi;have hi:=List.mem_range.1 hi;obtain⟨s,hs⟩:∃s,z.sets[i]? =some s:=⟨_,ai hi⟩
  obtain⟨p,hp⟩:∃p,z.sets[i-1]? =some p:=⟨_,ai (by omega)⟩
  have hsm:=au hs;have hpm:=au hp;rw[pz hs hp,lj,h.set s hsm,h.under s hsm,sc _ _ (h.name p hpm) (h.name s hsm)];by_cases h0:i=0
  . subst h0;rfl
  . have:=iS h.rising (show i-1<i by omega) hp hs;have e:cpl (p.set.name,p.set.type) (s.set.name,s.set.type)<0:=this;have e2:¬cpl (p.set.name,p.set.type) (s.set.name,s.set.type)>=0:=by omega
    simp[e2]
 have hf:¬((z.sets.length:Int)>20000):=by have:=h.few;omega
 rw[hall,h.apex,h.tame];simp[hf]
structure Val(z:aD):Prop where
 ord:Ordered z
 start:je z.sets ⟨z.apex,4⟩=true
 serv:je z.sets ⟨z.apex,2⟩=true
 fit:∀s∈z.sets,fits s.set.type (s.set.name==z.apex)=true
 ali:∀s∈z.sets,∀x∈z.sets,s.set.type=3->x.set.name=s.set.name->x.set.type=3\/x.set.type=8
 cut:∀s∈z.sets,oW s (spec (dh z) s.set.name)=false
 sig:∀s∈z.sets,pD s (spec (dh z) s.set.name)=false
 form:∀s∈z.sets,ku s.sigs z.apex=true
theorem Gg(z:aD):(List.range z.sets.length).all (pY z)=true ↔ ∀s∈z.sets,fits s.set.type (s.set.name==z.apex)=true :=
 lA λi s h=>by unfold pY;rw[h]
theorem De(z:aD):pZ z=true ↔ ∀s∈z.sets,ku s.sigs z.apex=true :=
 lA λi s h=>by unfold nk;rw[h]
theorem AB{z:aD}(ho:Ordered z):sf z (cU z)=true ↔ ∀s∈z.sets,oW s (spec (dh z) s.set.name)=false:=by
 unfold sf;rw[lA (q:=λs=> !oW s (spec (dh z) s.set.name)) λi s h=>by unfold cutAt;rw[GS h ho,h]];simp only[Bool.not_eq_true']
theorem Bc{z:aD}(ho:Ordered z):sM z (cU z)=true ↔ ∀s∈z.sets,pD s (spec (dh z) s.set.name)=false:=by
 unfold sM;rw[lA (q:=λs=> !pD s (spec (dh z) s.set.name)) λi s h=>by unfold sL;rw[GS h ho,h]];simp only[Bool.not_eq_true']
theorem An{z:aD}:aR z=true ↔ Val z:=by
 constructor
 . intro h;have ho:=bX h;unfold aR oa at h;simp only[aF]at h;obtain⟨⟨_,⟨⟨a1,a2⟩,a3⟩⟩,⟨⟨b1,b2⟩,b3⟩,b4⟩:=h;exact⟨ho,a1,a2,(Gg z).1 a3,(Aq ho).1 b1,(AB ho).1 b2,(Bc ho).1 b3,(De z).1 b4⟩
 . intro h;unfold aR oa;dsimp only;rw[h.ord.bool,h.start,h.serv,(Gg z).2 h.fit,(Aq h.ord).2 h.ali,(AB h.ord).2 h.cut,(Bc h.ord).2 h.sig,(De z).2 h.form];rfl
theorem NY{s:Signed}(h:dC s.set=true):DX (qOf s)=true:=by
 have h1:=kO h;have h2:=uB h;unfold DX qOf;simp only[h1,gI,aF,decide_eq_true_eq];exact⟨h2.1,h2.2⟩
theorem dK{z:aD}(hv:aR z=true){s:Signed}(hs:s∈z.sets):OU z (qOf s)=(s,true,0):=by
 have ho:=bX hv;have hh:je z.sets (qOf s)=true:=PN.2 ⟨s,hs,rfl⟩;obtain⟨x,hx,hm,hp⟩:=MW ho (q:=qOf s) (ho.name s hs) hh;have e:=ho.rising.pw.uniq hm hs hp;subst e;unfold OU;rw[if_neg (by simp[NY (ho.set _ hs),hv]),if_neg (by simp[hh]),hx];rfl
theorem OO{l:List Signed}{q:dq}(h:je l q=true):∃(k:Nat) (s:Signed),atI l q=k/\l[k]? =some s/\s.place=q.place:=by
 unfold atI;cases hf:l.findIdx? (is q)with
 |none =>
  rw[List.findIdx?_eq_none_iff]at hf;unfold je at h;rw[List.any_eq_true]at h;obtain⟨s,hs,e⟩:=h;rw[hf s hs]at e;cases e
 |some k =>
  obtain⟨h1,h2,_⟩:=List.findIdx?_eq_some_iff_getElem.1 hf;exact⟨k,l[k],rfl,ai h1,(uh q _).1 h2⟩
theorem JP{l:List Signed}(hl:RP l){q:dq}{k:Nat}{s:Signed}(hk:l[k]? =some s)(hp:s.place=q.place):posOf l q=k:=by
 unfold posOf;have h1:l=l.take k++s::l.drop (k+1):=by
  obtain⟨hlt,e⟩:=aq.1 hk
  conv=>lhs;rw[<- List.take_append_drop k l,List.drop_eq_getElem_cons hlt,e]
 have hlt:k<l.length:=(aq.1 hk).1;have h2:∀x∈l.take k,decide (cpl x.place q.place<0)=true:=λx hx=>by
  have hl' :=hl;rw[h1]at hl';have:=(List.pairwise_append.1 hl').2.2 x hx s (List.mem_cons_self ..);rw[<- hp];simpa using this
 conv=>lhs;rw[h1]
 rw[List.takeWhile_append_of_pos h2,List.takeWhile_cons,if_neg (by rw[hp,CL];simp)];simp;omega
def ref(o:Bool)(s:Signed):Bool:=o||(s.set.type==2)
def mark(s:Signed)(o:Bool):Bs:=if ref o s=true then[]else s.set.name++[0]
end NP
namespace Go.Proofs.YtodofogcincleaaGreatDoor
open NQ Go NP Go.RowKit
theorem Nn(l:List Int)(x:Int)(hl:l.length<=100000):NQ.Fn cx 188 [.slice 1 (l.map jf),.int .i64 x] (.d (.int .i64 (match l.findIdx? (· ==x)with|some k=>(k:Int)|none=> -1))) []:=by
 refine aK aV mixed Tryz.func188 (by kernel_rfl) rfl (ag rfl) ?_;conv=>whnf
 refine⟨Nat,λk=>⟨[(0,.d (.slice 1 (l.map jf))),(1,.d (.int .i64 x)),(7,.d (.int .i64 ((l.map jf).length:Int))),(8,.d (.int .i64 k))],[]⟩,λk=>k<=l.length/\ ∀j y,j<k->l[j]? =some y->(y==x)=false,λk=>l.length-k,
  ⟨0,⟨by omega,λj y h=>by omega⟩,aC.keep ⟨ae,ae,ae,ae,trivial⟩ trivial⟩,λk ⟨hk,hall⟩=>?_⟩
 conv=>whnf
 refine af (λh1=>?_) (λh1=>?_) <;> (rw[h1];conv=>whnf)
 . have hlt:k<l.length:=by simp at h1;omega
   obtain⟨y,hy⟩:∃s,l[k]? =some s:=⟨_,ai hlt⟩
   refine⟨aw k,jf y,aB hy,?_⟩
   conv=>whnf
   (refine af (λh=>?_) (λh=>?_) <;> (rw[h];conv=>whnf))
   . refine aj rfl ?_;have:l.findIdx? (· ==x)=some k:=by
      rw[List.findIdx?_eq_some_iff_getElem];refine⟨hlt,?_,λj hj=>?_⟩
      . obtain⟨_,e⟩:=aq.1 hy;rw[e];simp at h ⊢;exact h.symm
      . have:=hall j l[j] hj (ai (by omega));simpa using this
     rw[this];rfl
   . refine⟨k+1,⟨hlt,λj z hj hz=>?_⟩,by(show l.length-(k+1)<l.length-k;omega),aC.keep ⟨ae,ae,ae,⟨ao (by omega),rfl⟩,trivial⟩ trivial⟩;rcases Nat.lt_or_eq_of_le (Nat.le_of_lt_succ hj)with h2|rfl
     . exact hall j z h2 hz
     . rw[hy]at hz;cases hz;simp at h ⊢;exact λe=>h e.symm
 . obtain rfl:k=l.length:=by simp at h1;omega
   refine aj rfl ?_;have:l.findIdx? (· ==x)=none:=by
    rw[List.findIdx?_eq_none_iff];intro y hy;obtain⟨j,hj⟩:=ck hy;exact hall j y (aq.1 hj).1 hj
   rw[this];rfl
theorem jI(l:List Int)(x:Int)(hl:l.length<=100000):NQ.Fn cx 121 [.slice 1 (l.map jf),.int .i64 x] (.d (.bool (l.contains x))) []:=by
 refine aK aV mixed Tryz.func121 (by kernel_rfl) rfl (ag rfl) ?_;conv=>whnf
 (refine⟨_,_,Nn l x hl,?_⟩;conv=>whnf)
 refine aj rfl ?_;show AV.d (D.bool (decide ((match l.findIdx? (· ==x)with|some k=>(k:Int)|none=> -1)>=0)))=_
 congr 2
 cases h:l.findIdx? (· ==x)with
 |some k =>
  obtain⟨h1,h2,_⟩:=List.findIdx?_eq_some_iff_getElem.1 h;have:l.contains x=true:=by
   rw[kE];have e:l[k]=x:=by simpa using h2
   exact e ▸ List.getElem_mem h1
  rw[this,decide_eq_true];exact aw k
 |none =>
  have:l.contains x=false:=by
   rw[<- Bool.not_eq_true,kE];intro hm;have:=List.findIdx?_eq_none_iff.1 h x hm;simp at this
  rw[this];rfl
end Go.Proofs.YtodofogcincleaaGreatDoor
namespace NP
open NQ Go
end NP
namespace Go.Proofs.YtodofogcincleaaGreatDoor
open NQ Go NP Go.RowKit
theorem qT(z:aD)(hv:aR z=true):NQ.Fn cx 11 [.agg (aH z)] (.d (.int .i64 (fb z))) []:=by
 have ho:=bX hv;have hfew:=ho.few;refine aK aV mixed Tryz.func11 (by kernel_rfl) rfl (ag rfl) ?_;conv=>whnf
 obtain⟨k,s,hk,hs,hp⟩:=OO (An.1 hv).start;have fA:=ON z ⟨z.apex,4⟩ (by omega);rw[hk]at fA;obtain⟨d,hd⟩:=uA (ho.set s (au hs));have e:fb z=d.n:=by
  unfold fb;rw[JP ho.rising.pw hs hp,hs];simp only[hd]
 (refine⟨(by kernel_rfl:bE _ _=true),?_⟩;conv=>whnf)
 (refine⟨_,_,fA,?_⟩;conv=>whnf)
 refine⟨aw k,ak s,aB hs,?_⟩
 conv=>whnf
 refine⟨by decide,aG d,by(show(s.set.data.map aG)[(0:Int).toNat]? =_;simp[hd]),?_⟩
 conv=>whnf
 exact aj rfl (by rw[e];rfl)
end Go.Proofs.YtodofogcincleaaGreatDoor
