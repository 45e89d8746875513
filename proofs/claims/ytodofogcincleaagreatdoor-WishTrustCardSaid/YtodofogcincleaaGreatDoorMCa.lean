/-
  Merged texts.
-/
import Derived.Test.YtodofogcincleaaGreatDoorMVa
import Derived.Lib.SlicesDelete
import Derived.Test.YtodofogcincleaaGreatDoorMDc
set_option linter.all false
set_option maxRecDepth 100000
namespace Go.Proofs.YtodofogcincleaaGreatDoor
open NQ Go.RowKit
def jA:Signed:=⟨⟨[],0,0,[]⟩,[]⟩
theorem JO{α:Type}{l:List α}{k n:Nat}{x z:α}(hk:l[k]? =some x)(hn:l.length=n):(l.take k++List.replicate (n-k) z).set k x=l.take (k+1)++List.replicate (n-(k+1)) z:=by
 have hg:k<l.length:=(aB.1 hk).1;have h1:(l.take k).length=k:=by simp;omega
 rw[List.set_append_right _ _ (by omega),h1,Nat.sub_self,show n-k=(n-(k+1))+1 by omega,List.replicate_succ,List.set_cons_zero,bP hk,List.append_assoc];rfl
def RS(z:aL)(q:ed):Signed×Bool×Int :=
 if (!Gq q|| !bf z)=true then(jA,false,1)else if (!kx z.aj q)=true then(jA,false,0)else((z.aj[posOf z.aj q]?).getD jA,true,0)
theorem FG{l:List Sig}{a:Bs}(h:lS l a=true):l.length<=6:=by
 simp[lS]at h;omega
theorem mw{s:cG}(h:dX s=true):s.data.length<=8:=by
 unfold dX at h;simp only[aT,Bool.not_eq_true',Bool.or_eq_false_iff,Bool.not_eq_false']at h;have:=h.1.1.2;simp[within]at this;omega
theorem nI(rows:List (List D))(hl:rows.length<=100000):NQ.Fn cx 46 [.slice 3 rows] (.d (.slice 3 rows)) []:=by
 refine aU bp mixed Tryz.func46 ?_;conv=>whnf
 refine⟨λh=>?_,?_⟩
 .refine al rfl ?_;rw[List.isEmpty_iff.1 h];rfl
 .conv=>whnf
  refine⟨by(show 0+rows.length<=_;omega),by(show(0+rows.length)*32<=_;omega),?_⟩;conv=>whnf
  exact al rfl rfl
theorem vu(rows:List (List D))(hl:rows.length<=100000):NQ.Fn cx 194 [.slice 6 rows] (.d (.slice 6 rows)) []:=by
 refine aU bp mixed Tryz.func194 ?_;conv=>whnf
 refine⟨λh=>?_,?_⟩
 .refine al rfl ?_;rw[List.isEmpty_iff.1 h];rfl
 .conv=>whnf
  refine⟨by(show 0+rows.length<=_;omega),by(show(0+rows.length)*56<=_;omega),?_⟩;conv=>whnf
  exact al rfl rfl
def iS:aL:=⟨[],[]⟩
def qOf(s:Signed):ed:=⟨s.set.name,s.set.type⟩
def UZ(l:List Signed)(i:Nat)(s:Signed):List Signed:=l.take i++[s]++l.drop i
def QW(l:List Signed)(s:Signed):List Signed:=if kx l (qOf s)=true then l.set (posOf l (qOf s)) s else UZ l (posOf l (qOf s)) s
theorem SR{s:Bs}(h:bk s=true):(cF s).length<=8:=by
 have:=se h;simp[okL]at this;exact this.1
theorem JX{z:aL}{i:Nat}{s:Signed}(h:z.aj[i]? =some s)(ho:Ordered z):(dM z)[i]? =some (spec (dV z) s.set.name):=by
 rw[<- ME ho,vm ho,bc,h];rfl
theorem yz{a b c:Bs}(h:bE a b=true)(k:bE b c=true):bE a c=true:=by
 rw[kJ]at *; exact k.trans h
theorem uU{a b:Bs}(h:bE a b=true)(k:bE b a=true):a=b:=by
 rw[kJ]at *;exact yK ((k.eq_of_length (Nat.le_antisymm k.length_le h.length_le)))
theorem wy{n:Bs}(hn:bk n=true):bE n (dx n)=true:=by
 unfold bE;rw[sy hn];exact List.isSuffixOf_iff_suffix.2 (List.tail_suffix _)
theorem EX(p:Bs×Int):cpl p p=0:=(la.zero _ _).2 rfl
theorem vB{a b:Bs×Int}(h:cpl a b<0):a≠b:=λe=>by subst e;rw[EX]at h;omega
abbrev RP(l:List Signed):Prop:=l.Pairwise λa b=>cpl a.place b.place<0
theorem ie.pw:∀{l:List Signed},ie l->RP l
 |[],_=>List.Pairwise.nil
 |x::t,h=>List.Pairwise.cons (nB h) h.tail.pw
theorem RP.uniq:∀{l:List Signed},RP l-> ∀{a b:Signed},a∈l->b∈l->a.place=b.place->a=b
 |[],_,_,_,ha,_,_=>by cases ha
 |x::l,h,a,b,ha,hb,e=>by
  obtain⟨h1,h2⟩:=List.pairwise_cons.1 h;rcases List.mem_cons.1 ha with ha' |ha' <;> rcases List.mem_cons.1 hb with hb' |hb'
  .rw[ha',hb']
  .subst ha';exact(vB (h1 b hb') e).elim
  .subst hb';exact(vB (h1 a ha') e.symm).elim
  .exact RP.uniq h2 ha' hb' e
theorem SM{l:List Signed}{q:ed}:kx l q=true ↔ ∃s∈l,s.place=q.place:=by
 simp only[kx,List.any_eq_true,td]
def rem(q:ed)(l:List Signed):List Signed:=l.filter λx=> !is q x
theorem wG{s:cG}(h:dX s=true):1<=s.type/\s.type<=8:=by
 unfold dX at h;simp only[aT,Bool.not_eq_true',Bool.or_eq_false_iff,Bool.not_eq_false']at h;have:=h.1.1.1.1.2;simp[within]at this;exact this
theorem Cu{z:aL}(ho:Ordered z):aliases z=true ↔ ∀s∈z.aj,∀x∈z.aj,s.set.type=3->x.set.name=s.set.name->x.set.type=3\/x.set.type=8:=by
 unfold aliases;rw[aH];constructor
 .intro h s hs x hx h3 hn;obtain⟨i,hi⟩:=cN hs;obtain⟨j,hj⟩:=cN hx;have ht:=(aB.1 hi).1;have hJ:=(aB.1 hj).1;obtain⟨p,hp⟩:∃p,z.aj[i-1]? =some p:=⟨_,au (by omega)⟩
  have hE:=h i (List.mem_range.2 ht);refine Decidable.byContradiction λhD=>?_
  have hA:x.set.type≠3:=λe=>hD (.inl e)
  have hB:x.set.type≠8:=λe=>hD (.inr e)
  have hr:oN z i=false:=by
   refine(Es hi hp).2 ⟨h3,?_⟩;rcases Nat.lt_trichotomy j i with hg|heq|hgt
   .left
    refine⟨by omega,?_⟩;rcases Nat.lt_or_eq_of_le (show j<=i-1 by omega)with k|k
    .have a1:=(oF (jZ ho.rising k hj hp)).1;have a2:=(oF (jZ ho.rising (show i-1<i by omega) hp hi)).1;rw[hn]at a1;exact(RN a1 a2).symm
    .rw[<- k,hj]at hp;cases hp;exact hn
   .subst heq;rw[hi]at hj;cases hj;exact absurd h3 hA
   .right
    rcases Nat.lt_or_eq_of_le (show i+1<=j by omega)with k|k
    .obtain⟨y,hy⟩:∃y,z.aj[i+1]? =some y:=⟨_,au (by omega)⟩
     have a1:=oF (jZ ho.rising k hy hj);have a2:=(oF (jZ ho.rising (show i<i+1 by omega) hi hy)).1;have hF:y.set.name=s.set.name:=by
      have:=a1.1;rw[hn]at this;exact RN this a2
     refine⟨y,hy,hF,?_⟩;have:=a1.2 (hF.trans hn.symm);have:=(wG (ho.set x hx)).2;omega
    .exact⟨x,by rw[k];exact hj,hn,hB⟩
  rw[hr]at hE;cases hE
 .intro h i hi;have ht:=List.mem_range.1 hi;obtain⟨s,hs⟩:∃s,z.aj[i]? =some s:=⟨_,au ht⟩
  obtain⟨p,hp⟩:∃p,z.aj[i-1]? =some p:=⟨_,au (by omega)⟩
  cases hb:oN z i with
  |true=>rfl
  |false =>
   obtain⟨h3,k⟩:=(Es hs hp).1 hb;have hq:=aC hs;rcases k with ⟨k1,k2⟩|⟨x,k1,k2,k3⟩
   .have:=(oF (jZ ho.rising (show i-1<i by omega) hp hs)).2 k2;rcases h s hq p (aC hp) h3 k2 with e|e <;> omega
   .have:=(oF (jZ ho.rising (show i<i+1 by omega) hs k1)).2 k2.symm;rcases h s hq x (aC k1) h3 k2 with e|e
    .omega
    .exact absurd e k3
theorem mU{α:Type}{l:List α}{p:Nat->Bool}{q:α->Bool}(h:∀i s,l[i]? =some s->p i=q s):(List.range l.length).all p=true ↔ ∀s∈l,q s=true:=by
 rw[aH];constructor
 .intro k s hs;obtain⟨i,hi⟩:=cN hs;rw[<- h i s hi];exact k i (List.mem_range.2 (aB.1 hi).1)
 .intro k i hi;have hi:=List.mem_range.1 hi;rw[h i _ (au hi)];exact k _ (List.getElem_mem hi)
theorem Ordered.bool{z:aL}(h:Ordered z):ordered z=true:=by
 unfold ordered;have hc:(List.range z.aj.length).all (rR z)=true:=by
  rw[aH];intro i hi;have hi:=List.mem_range.1 hi;obtain⟨s,hs⟩:∃s,z.aj[i]? =some s:=⟨_,au hi⟩
  obtain⟨p,hp⟩:∃p,z.aj[i-1]? =some p:=⟨_,au (by omega)⟩
  have hq:=aC hs;have hI:=aC hp;rw[qS hs hp,mN,h.set s hq,h.under s hq,tW _ _ (h.name p hI) (h.name s hq)];by_cases h0:i=0
  .subst h0;rfl
  .have:=jZ h.rising (show i-1<i by omega) hp hs;have e:cpl (p.set.name,p.set.type) (s.set.name,s.set.type)<0:=this;have e2:¬cpl (p.set.name,p.set.type) (s.set.name,s.set.type)>=0:=by omega
   simp[e2]
 have hf:¬((z.aj.length:Int)>20000):=by have:=h.few;omega
 rw[hc,h.af,h.Rv];simp[hf]
structure Val(z:aL):Prop where
 ord:Ordered z
 start:kx z.aj ⟨z.af,4⟩=true
 Vk:kx z.aj ⟨z.af,2⟩=true
 fit:∀s∈z.aj,fits s.set.type (s.set.name==z.af)=true
 ali:∀s∈z.aj,∀x∈z.aj,s.set.type=3->x.set.name=s.set.name->x.set.type=3\/x.set.type=8
 cut:∀s∈z.aj,qB s (spec (dV z) s.set.name)=false
 sig:∀s∈z.aj,qX s (spec (dV z) s.set.name)=false
 form:∀s∈z.aj,lS s.sigs z.af=true
theorem Jj(z:aL):(List.range z.aj.length).all (rF z)=true ↔ ∀s∈z.aj,fits s.set.type (s.set.name==z.af)=true :=
 mU λi s h=>by unfold rF;rw[h]
theorem Fv(z:aL):ui z=true ↔ ∀s∈z.aj,lS s.sigs z.af=true :=
 mU λi s h=>by unfold pT;rw[h]
theorem CF{z:aL}(ho:Ordered z):ub z (dM z)=true ↔ ∀s∈z.aj,qB s (spec (dV z) s.set.name)=false:=by
 unfold ub;rw[mU (q:=λs=> !qB s (spec (dV z) s.set.name)) λi s h=>by unfold cutAt;rw[JX h ho,h]];simp only[Bool.not_eq_true']
theorem De{z:aL}(ho:Ordered z):uM z (dM z)=true ↔ ∀s∈z.aj,qX s (spec (dV z) s.set.name)=false:=by
 unfold uM;rw[mU (q:=λs=> !qX s (spec (dV z) s.set.name)) λi s h=>by unfold uL;rw[JX h ho,h]];simp only[Bool.not_eq_true']
theorem xM{z:aL}:bf z=true ↔ Val z:=by
 constructor
 .intro h;have ho:=bO h;unfold bf pM at h;simp only[aT]at h;obtain⟨⟨_,⟨⟨a1,a2⟩,a3⟩⟩,⟨⟨b1,b2⟩,b3⟩,b4⟩:=h;exact⟨ho,a1,a2,(Jj z).1 a3,(Cu ho).1 b1,(CF ho).1 b2,(De ho).1 b3,(Fv z).1 b4⟩
 .intro h;unfold bf pM;dsimp only;rw[h.ord.bool,h.start,h.Vk,(Jj z).2 h.fit,(Cu h.ord).2 h.ali,(CF h.ord).2 h.cut,(De h.ord).2 h.sig,(Fv z).2 h.form];rfl
theorem QX{s:Signed}(h:dX s.set=true):Gq (qOf s)=true:=by
 have h1:=my h;have h2:=wG h;unfold Gq qOf;simp only[h1,ic,aT,decide_eq_true_eq];exact⟨h2.1,h2.2⟩
theorem eO{z:aL}(hv:bf z=true){s:Signed}(hs:s∈z.aj):RS z (qOf s)=(s,true,0):=by
 have ho:=bO hv;have hh:kx z.aj (qOf s)=true:=SM.2 ⟨s,hs,rfl⟩;obtain⟨x,hx,hm,hp⟩:=PV ho (q:=qOf s) (ho.name s hs) hh;have e:=ho.rising.pw.uniq hm hs hp;subst e;unfold RS;rw[if_neg (by simp[QX (ho.set _ hs),hv]),if_neg (by simp[hh]),hx];rfl
theorem RM{l:List Signed}{q:ed}(h:kx l q=true):∃(k:Nat) (s:Signed),atI l q=k/\l[k]? =some s/\s.place=q.place:=by
 unfold atI;cases hf:l.findIdx? (is q)with
 |none =>
  rw[List.findIdx?_eq_none_iff]at hf;unfold kx at h;rw[List.any_eq_true]at h;obtain⟨s,hs,e⟩:=h;rw[hf s hs]at e;cases e
 |some k =>
  obtain⟨h1,h2,_⟩:=List.findIdx?_eq_some_iff_getElem.1 hf;exact⟨k,l[k],rfl,au h1,(td q _).1 h2⟩
theorem MB{l:List Signed}(hl:RP l){q:ed}{k:Nat}{s:Signed}(hk:l[k]? =some s)(hp:s.place=q.place):posOf l q=k:=by
 unfold posOf;have h1:l=l.take k++s::l.drop (k+1):=by
  obtain⟨hg,e⟩:=aB.1 hk;conv=>lhs;rw[<- List.take_append_drop k l,List.drop_eq_getElem_cons hg,e]
 have hg:k<l.length:=(aB.1 hk).1;have h2:∀x∈l.take k,decide (cpl x.place q.place<0)=true:=λx hx=>by
  have hC :=hl;rw[h1]at hC;have:=(List.pairwise_append.1 hC).2.2 x hx s (List.mem_cons_self ..);rw[<- hp];simpa using this
 conv=>lhs;rw[h1]
 rw[List.takeWhile_append_of_pos h2,List.takeWhile_cons,if_neg (by rw[hp,EX];simp)];simp;omega
def ref(o:Bool)(s:Signed):Bool:=o||(s.set.type==2)
def mark(s:Signed)(o:Bool):Bs:=if ref o s=true then[]else s.set.name++[0]
theorem Qk(l:List Int)(x:Int)(hl:l.length<=100000):NQ.Fn cx 188 [.slice 1 (l.map ky),.int .i64 x] (.d (.int .i64 (match l.findIdx? (· ==x)with|some k=>(k:Int)|none=> -1))) []:=by
 refine aU bp mixed Tryz.func188 ?_;conv=>whnf
 refine⟨Nat,λk=>⟨[(0,.d (.slice 1 (l.map ky))),(1,.d (.int .i64 x)),(7,.d (.int .i64 ((l.map ky).length:Int))),(8,.d (.int .i64 k))],[]⟩,λk=>k<=l.length/\ ∀j y,j<k->l[j]? =some y->(y==x)=false,λk=>l.length-k,
  ⟨0,⟨by omega,λj y h=>by omega⟩,aK.keep ⟨ae,ae,ae,ae,trivial⟩ trivial⟩,λk ⟨hk,hc⟩=>?_⟩
 conv=>whnf
 refine ak (λh1=>?_) (λh1=>?_) <;> (rw[h1];conv=>whnf)
 .have hg:k<l.length:=by simp at h1;omega
  obtain⟨y,hy⟩:∃s,l[k]? =some s:=⟨_,au hg⟩
  refine⟨aD k,ky y,aN hy,?_⟩;conv=>whnf
  (refine ak (λh=>?_) (λh=>?_) <;> (rw[h];conv=>whnf))
  .refine al rfl ?_;have:l.findIdx? (· ==x)=some k:=by
    rw[List.findIdx?_eq_some_iff_getElem];refine⟨hg,?_,λj hj=>?_⟩
    .obtain⟨_,e⟩:=aB.1 hy;rw[e];simp at h ⊢;exact h.symm
    .have:=hc j l[j] hj (au (by omega));simpa using this
   rw[this];rfl
  .refine⟨k+1,⟨hg,λj z hj hz=>?_⟩,by(show l.length-(k+1)<l.length-k;omega),aK.keep ⟨ae,ae,ae,⟨ax (by omega),rfl⟩,trivial⟩ trivial⟩;rcases Nat.lt_or_eq_of_le (Nat.le_of_lt_succ hj)with h2|rfl
   .exact hc j z h2 hz
   .rw[hy]at hz;cases hz;simp at h ⊢;exact λe=>h e.symm
 .obtain rfl:k=l.length:=by simp at h1;omega
  refine al rfl ?_;have:l.findIdx? (· ==x)=none:=by
   rw[List.findIdx?_eq_none_iff];intro y hy;obtain⟨j,hj⟩:=cN hy;exact hc j y (aB.1 hj).1 hj
  rw[this];rfl
theorem kZ(l:List Int)(x:Int)(hl:l.length<=100000):NQ.Fn cx 121 [.slice 1 (l.map ky),.int .i64 x] (.d (.bool (l.contains x))) []:=by
 refine aU bp mixed Tryz.func121 ?_;conv=>whnf
 (refine⟨_,_,Qk l x hl,?_⟩;conv=>whnf)
 refine al rfl ?_;show AV.d (D.bool (decide ((match l.findIdx? (· ==x)with|some k=>(k:Int)|none=> -1)>=0)))=_
 congr 2
 cases h:l.findIdx? (· ==x)with
 |some k =>
  obtain⟨h1,h2,_⟩:=List.findIdx?_eq_some_iff_getElem.1 h;have:l.contains x=true:=by
   rw[mg];have e:l[k]=x:=by simpa using h2
   exact e ▸ List.getElem_mem h1
  rw[this,decide_eq_true];exact aD k
 |none =>
  have:l.contains x=false:=by
   rw[<- Bool.not_eq_true,mg];intro hm;have:=List.findIdx?_eq_none_iff.1 h x hm;simp at this
  rw[this];rfl
theorem sE(z:aL)(hv:bf z=true):NQ.Fn cx 11 [.agg (aX z)] (.d (.int .i64 (fP z))) []:=by
 have ho:=bO hv;have hG:=ho.few;refine aU bp mixed Tryz.func11 ?_;conv=>whnf
 obtain⟨k,s,hk,hs,hp⟩:=RM (xM.1 hv).start;have fA:=Kf z ⟨z.af,4⟩ (by omega);rw[hk]at fA;obtain⟨d,hd⟩:=wF (ho.set s (aC hs));have e:fP z=d.n:=by
  unfold fP;rw[MB ho.rising.pw hs hp,hs];simp only[hd]
 (refine bV ?_;conv=>whnf)
 (refine⟨_,_,fA,?_⟩;conv=>whnf)
 refine⟨aD k,aw s,aN hs,?_⟩;conv=>whnf
 refine⟨by decide,aQ d,by(show(s.set.data.map aQ)[(0:Int).toNat]? =_;simp[hd]),?_⟩;conv=>whnf
 exact al rfl (by rw[e];rfl)
end Go.Proofs.YtodofogcincleaaGreatDoor
