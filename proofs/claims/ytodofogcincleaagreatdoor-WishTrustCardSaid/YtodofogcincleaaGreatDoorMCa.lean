/-
  Merged texts.
-/
import Derived.Test.YtodofogcincleaaGreatDoorMVa
import Derived.Lib.SlicesDelete
import Derived.Test.YtodofogcincleaaGreatDoorMDc
set_option linter.all false
set_option maxRecDepth 100000
namespace Go.Proofs.YtodofogcincleaaGreatDoor
open NQ Go.RowKit
def mf:Signed:=⟨⟨[],0,0,[]⟩,[]⟩
theorem JK{α:Type}{l:List α}{k n:Nat}{x z:α}(hk:l[k]? =some x)(hn:l.length=n):(l.take k++List.replicate (n-k) z).set k x=l.take (k+1)++List.replicate (n-(k+1)) z:=by
 have hc:k<l.length:=(aB.1 hk).1;have h1:(l.take k).length=k:=by simp;omega
 rw[List.set_append_right _ _ (by omega),h1,Nat.sub_self,show n-k=(n-(k+1))+1 by omega,List.replicate_succ,List.set_cons_zero,bO hk,List.append_assoc];rfl
theorem FE{l:List Sig}{a:Bs}(h:lQ l a=true):l.length<=6:=by
 simp[lQ]at h;omega
theorem mw{s:cG}(h:ee s=true):s.data.length<=8:=by
 unfold ee at h;simp only[aU,Bool.not_eq_true',Bool.or_eq_false_iff,Bool.not_eq_false']at h;have:=h.1.1.2;simp[within]at this;omega
theorem nG(rows:List (List D))(hl:rows.length<=100000):NQ.Fn cx 46 [.slice 3 rows] (.d (.slice 3 rows)) []:=by
 refine aT bo mixed Tryz.func46 ?_;conv=>whnf
 refine⟨λh=>?_,?_⟩
 .refine al rfl ?_;rw[List.isEmpty_iff.1 h];rfl
 .conv=>whnf
  refine⟨by(show 0+rows.length<=_;omega),by(show(0+rows.length)*32<=_;omega),?_⟩;conv=>whnf
  exact al rfl rfl
theorem vo(rows:List (List D))(hl:rows.length<=100000):NQ.Fn cx 194 [.slice 6 rows] (.d (.slice 6 rows)) []:=by
 refine aT bo mixed Tryz.func194 ?_;conv=>whnf
 refine⟨λh=>?_,?_⟩
 .refine al rfl ?_;rw[List.isEmpty_iff.1 h];rfl
 .conv=>whnf
  refine⟨by(show 0+rows.length<=_;omega),by(show(0+rows.length)*56<=_;omega),?_⟩;conv=>whnf
  exact al rfl rfl
def iT:aO:=⟨[],[]⟩
def qOf(s:Signed):eP:=⟨s.set.name,s.set.type⟩
def UR(l:List Signed)(i:Nat)(s:Signed):List Signed:=l.take i++[s]++l.drop i
def QQ(l:List Signed)(s:Signed):List Signed:=if nL l (qOf s)=true then l.set (posOf l (qOf s)) s else UR l (posOf l (qOf s)) s
theorem SI{s:Bs}(h:bq s=true):(cF s).length<=8:=by
 have:=sc h;simp[okL]at this;exact this.1
theorem JT{z:aO}{i:Nat}{s:Signed}(h:z.ak[i]? =some s)(ho:Ordered z):(dK z)[i]? =some (spec (dS z) s.set.name):=by
 rw[<- My ho,vj ho,bc,h];rfl
theorem yv{a b c:Bs}(h:bE a b=true)(k:bE b c=true):bE a c=true:=by
 rw[kI]at *; exact k.trans h
theorem uR{a b:Bs}(h:bE a b=true)(k:bE b a=true):a=b:=by
 rw[kI]at *;exact yG ((k.eq_of_length (Nat.le_antisymm k.length_le h.length_le)))
theorem wv{n:Bs}(hn:bq n=true):bE n (dw n)=true:=by
 unfold bE;rw[su hn];exact List.isSuffixOf_iff_suffix.2 (List.tail_suffix _)
theorem EV(p:Bs×Int):cpl p p=0:=(ml.zero _ _).2 rfl
theorem MN{a b:Bs×Int}(h:cpl a b<0):a≠b:=λe=>by subst e;rw[EV]at h;omega
abbrev RP(l:List Signed):Prop:=l.Pairwise λa b=>cpl a.place b.place<0
theorem ic.pw:∀{l:List Signed},ic l->RP l
 |[],_=>List.Pairwise.nil
 |x::t,h=>List.Pairwise.cons (nz h) h.tail.pw
def rem(q:eP)(l:List Signed):List Signed:=l.filter λx=> !is q x
theorem CZ{s:cG}(h:ee s=true):1<=s.type/\s.type<=8:=by
 unfold ee at h;simp only[aU,Bool.not_eq_true',Bool.or_eq_false_iff,Bool.not_eq_false']at h;have:=h.1.1.1.1.2;simp[within]at this;exact this
theorem Cr{z:aO}(ho:Ordered z):aliases z=true ↔ ∀s∈z.ak,∀x∈z.ak,s.set.type=3->x.set.name=s.set.name->x.set.type=3\/x.set.type=8:=by
 unfold aliases;rw[aI];constructor
 .intro h s hs x hx h3 hn;obtain⟨i,hi⟩:=cQ hs;obtain⟨j,hj⟩:=cQ hx;have hq:=(aB.1 hi).1;have hG:=(aB.1 hj).1;obtain⟨p,hp⟩:∃p,z.ak[i-1]? =some p:=⟨_,au (by omega)⟩
  have hC:=h i (List.mem_range.2 hq);refine Decidable.byContradiction λhB=>?_
  have hr:x.set.type≠3:=λe=>hB (.inl e)
  have ht:x.set.type≠8:=λe=>hB (.inr e)
  have hh:oM z i=false:=by
   refine(Ep hi hp).2 ⟨h3,?_⟩;rcases Nat.lt_trichotomy j i with hc|heq|hgt
   .left
    refine⟨by omega,?_⟩;rcases Nat.lt_or_eq_of_le (show j<=i-1 by omega)with k|k
    .have a1:=(oE (jZ ho.rising k hj hp)).1;have a2:=(oE (jZ ho.rising (show i-1<i by omega) hp hi)).1;rw[hn]at a1;exact(RF a1 a2).symm
    .rw[<- k,hj]at hp;cases hp;exact hn
   .subst heq;rw[hi]at hj;cases hj;exact absurd h3 hr
   .right
    rcases Nat.lt_or_eq_of_le (show i+1<=j by omega)with k|k
    .obtain⟨y,hy⟩:∃y,z.ak[i+1]? =some y:=⟨_,au (by omega)⟩
     have a1:=oE (jZ ho.rising k hy hj);have a2:=(oE (jZ ho.rising (show i<i+1 by omega) hi hy)).1;have hD:y.set.name=s.set.name:=by
      have:=a1.1;rw[hn]at this;exact RF this a2
     refine⟨y,hy,hD,?_⟩;have:=a1.2 (hD.trans hn.symm);have:=(CZ (ho.set x hx)).2;omega
    .exact⟨x,by rw[k];exact hj,hn,ht⟩
  rw[hh]at hC;cases hC
 .intro h i hi;have hq:=List.mem_range.1 hi;obtain⟨s,hs⟩:∃s,z.ak[i]? =some s:=⟨_,au hq⟩
  obtain⟨p,hp⟩:∃p,z.ak[i-1]? =some p:=⟨_,au (by omega)⟩
  cases hb:oM z i with
  |true=>rfl
  |false =>
   obtain⟨h3,k⟩:=(Ep hs hp).1 hb;have hg:=aD hs;rcases k with ⟨k1,k2⟩|⟨x,k1,k2,k3⟩
   .have:=(oE (jZ ho.rising (show i-1<i by omega) hp hs)).2 k2;rcases h s hg p (aD hp) h3 k2 with e|e <;> omega
   .have:=(oE (jZ ho.rising (show i<i+1 by omega) hs k1)).2 k2.symm;rcases h s hg x (aD k1) h3 k2 with e|e
    .omega
    .exact absurd e k3
theorem mS{α:Type}{l:List α}{p:Nat->Bool}{q:α->Bool}(h:∀i s,l[i]? =some s->p i=q s):(List.range l.length).all p=true ↔ ∀s∈l,q s=true:=by
 rw[aI];constructor
 .intro k s hs;obtain⟨i,hi⟩:=cQ hs;rw[<- h i s hi];exact k i (List.mem_range.2 (aB.1 hi).1)
 .intro k i hi;have hi:=List.mem_range.1 hi;rw[h i _ (au hi)];exact k _ (List.getElem_mem hi)
theorem Ordered.bool{z:aO}(h:Ordered z):ordered z=true:=by
 unfold ordered;have ha:(List.range z.ak.length).all (uy z)=true:=by
  rw[aI];intro i hi;have hi:=List.mem_range.1 hi;obtain⟨s,hs⟩:∃s,z.ak[i]? =some s:=⟨_,au hi⟩
  obtain⟨p,hp⟩:∃p,z.ak[i-1]? =some p:=⟨_,au (by omega)⟩
  have hg:=aD hs;have hF:=aD hp;rw[zg hs hp,pk,h.set s hg,h.under s hg,yJ _ _ (h.name p hF) (h.name s hg)];by_cases h0:i=0
  .subst h0;rfl
  .have:=jZ h.rising (show i-1<i by omega) hp hs;have e:cpl (p.set.name,p.set.type) (s.set.name,s.set.type)<0:=this;have e2:¬cpl (p.set.name,p.set.type) (s.set.name,s.set.type)>=0:=by omega
   simp[e2]
 have hf:¬((z.ak.length:Int)>20000):=by have:=h.few;omega
 rw[ha,h.af,h.Ro];simp[hf]
structure Val(z:aO):Prop where
 ord:Ordered z
 start:nL z.ak ⟨z.af,4⟩=true
 Ve:nL z.ak ⟨z.af,2⟩=true
 fit:∀s∈z.ak,fits s.set.type (s.set.name==z.af)=true
 ali:∀s∈z.ak,∀x∈z.ak,s.set.type=3->x.set.name=s.set.name->x.set.type=3\/x.set.type=8
 cut:∀s∈z.ak,qB s (spec (dS z) s.set.name)=false
 sig:∀s∈z.ak,qW s (spec (dS z) s.set.name)=false
 form:∀s∈z.ak,lQ s.sigs z.af=true
theorem Jg(z:aO):(List.range z.ak.length).all (rE z)=true ↔ ∀s∈z.ak,fits s.set.type (s.set.name==z.af)=true :=
 mS λi s h=>by unfold rE;rw[h]
theorem Ft(z:aO):ud z=true ↔ ∀s∈z.ak,lQ s.sigs z.af=true :=
 mS λi s h=>by unfold pT;rw[h]
theorem CC{z:aO}(ho:Ordered z):tV z (dK z)=true ↔ ∀s∈z.ak,qB s (spec (dS z) s.set.name)=false:=by
 unfold tV;rw[mS (q:=λs=> !qB s (spec (dS z) s.set.name)) λi s h=>by unfold cutAt;rw[JT h ho,h]];simp only[Bool.not_eq_true']
theorem Dc{z:aO}(ho:Ordered z):uJ z (dK z)=true ↔ ∀s∈z.ak,qW s (spec (dS z) s.set.name)=false:=by
 unfold uJ;rw[mS (q:=λs=> !qW s (spec (dS z) s.set.name)) λi s h=>by unfold uI;rw[JT h ho,h]];simp only[Bool.not_eq_true']
theorem xI{z:aO}:bf z=true ↔ Val z:=by
 constructor
 .intro h;have ho:=bQ h;unfold bf pM at h;simp only[aU]at h;obtain⟨⟨_,⟨⟨a1,a2⟩,a3⟩⟩,⟨⟨b1,b2⟩,b3⟩,b4⟩:=h;exact⟨ho,a1,a2,(Jg z).1 a3,(Cr ho).1 b1,(CC ho).1 b2,(Dc ho).1 b3,(Ft z).1 b4⟩
 .intro h;unfold bf pM;dsimp only;rw[h.ord.bool,h.start,h.Ve,(Jg z).2 h.fit,(Cr h.ord).2 h.ali,(CC h.ord).2 h.cut,(Dc h.ord).2 h.sig,(Ft z).2 h.form];rfl
theorem RE{l:List Signed}{q:eP}(h:nL l q=true):∃(k:Nat) (s:Signed),atI l q=k/\l[k]? =some s/\s.place=q.place:=by
 unfold atI;cases hf:l.findIdx? (is q)with
 |none =>
  rw[List.findIdx?_eq_none_iff]at hf;unfold nL at h;rw[List.any_eq_true]at h;obtain⟨s,hs,e⟩:=h;rw[hf s hs]at e;cases e
 |some k =>
  obtain⟨h1,h2,_⟩:=List.findIdx?_eq_some_iff_getElem.1 hf;exact⟨k,l[k],rfl,au h1,(wa q _).1 h2⟩
theorem Mv{l:List Signed}(hl:RP l){q:eP}{k:Nat}{s:Signed}(hk:l[k]? =some s)(hp:s.place=q.place):posOf l q=k:=by
 unfold posOf;have h1:l=l.take k++s::l.drop (k+1):=by
  obtain⟨hc,e⟩:=aB.1 hk;conv=>lhs;rw[<- List.take_append_drop k l,List.drop_eq_getElem_cons hc,e]
 have hc:k<l.length:=(aB.1 hk).1;have h2:∀x∈l.take k,decide (cpl x.place q.place<0)=true:=λx hx=>by
  have hA :=hl;rw[h1]at hA;have:=(List.pairwise_append.1 hA).2.2 x hx s (List.mem_cons_self ..);rw[<- hp];simpa using this
 conv=>lhs;rw[h1]
 rw[List.takeWhile_append_of_pos h2,List.takeWhile_cons,if_neg (by rw[hp,EV];simp)];simp;omega
def ref(o:Bool)(s:Signed):Bool:=o||(s.set.type==2)
def mark(s:Signed)(o:Bool):Bs:=if ref o s=true then[]else s.set.name++[0]
theorem Qe(l:List Int)(x:Int)(hl:l.length<=100000):NQ.Fn cx 188 [.slice 1 (l.map kx),.int .i64 x] (.d (.int .i64 (match l.findIdx? (· ==x)with|some k=>(k:Int)|none=> -1))) []:=by
 refine aT bo mixed Tryz.func188 ?_;conv=>whnf
 refine⟨Nat,λk=>⟨[(0,.d (.slice 1 (l.map kx))),(1,.d (.int .i64 x)),(7,.d (.int .i64 ((l.map kx).length:Int))),(8,.d (.int .i64 k))],[]⟩,λk=>k<=l.length/\ ∀j y,j<k->l[j]? =some y->(y==x)=false,λk=>l.length-k,
  ⟨0,⟨by omega,λj y h=>by omega⟩,aK.keep ⟨ae,ae,ae,ae,trivial⟩ trivial⟩,λk ⟨hk,ha⟩=>?_⟩
 conv=>whnf
 refine aj (λh1=>?_) (λh1=>?_) <;> (rw[h1];conv=>whnf)
 .have hc:k<l.length:=by simp at h1;omega
  obtain⟨y,hy⟩:∃s,l[k]? =some s:=⟨_,au hc⟩
  refine⟨aC k,kx y,aM hy,?_⟩;conv=>whnf
  (refine aj (λh=>?_) (λh=>?_) <;> (rw[h];conv=>whnf))
  .refine al rfl ?_;have:l.findIdx? (· ==x)=some k:=by
    rw[List.findIdx?_eq_some_iff_getElem];refine⟨hc,?_,λj hj=>?_⟩
    .obtain⟨_,e⟩:=aB.1 hy;rw[e];simp at h ⊢;exact h.symm
    .have:=ha j l[j] hj (au (by omega));simpa using this
   rw[this];rfl
  .refine⟨k+1,⟨hc,λj z hj hz=>?_⟩,by(show l.length-(k+1)<l.length-k;omega),aK.keep ⟨ae,ae,ae,⟨ax (by omega),rfl⟩,trivial⟩ trivial⟩;rcases Nat.lt_or_eq_of_le (Nat.le_of_lt_succ hj)with h2|rfl
   .exact ha j z h2 hz
   .rw[hy]at hz;cases hz;simp at h ⊢;exact λe=>h e.symm
 .obtain rfl:k=l.length:=by simp at h1;omega
  refine al rfl ?_;have:l.findIdx? (· ==x)=none:=by
   rw[List.findIdx?_eq_none_iff];intro y hy;obtain⟨j,hj⟩:=cQ hy;exact ha j y (aB.1 hj).1 hj
  rw[this];rfl
theorem kX(l:List Int)(x:Int)(hl:l.length<=100000):NQ.Fn cx 121 [.slice 1 (l.map kx),.int .i64 x] (.d (.bool (l.contains x))) []:=by
 refine aT bo mixed Tryz.func121 ?_;conv=>whnf
 (refine⟨_,_,Qe l x hl,?_⟩;conv=>whnf)
 refine al rfl ?_;show AV.d (D.bool (decide ((match l.findIdx? (· ==x)with|some k=>(k:Int)|none=> -1)>=0)))=_
 congr 2
 cases h:l.findIdx? (· ==x)with
 |some k =>
  obtain⟨h1,h2,_⟩:=List.findIdx?_eq_some_iff_getElem.1 h;have:l.contains x=true:=by
   rw[mc];have e:l[k]=x:=by simpa using h2
   exact e ▸ List.getElem_mem h1
  rw[this,decide_eq_true];exact aC k
 |none =>
  have:l.contains x=false:=by
   rw[<- Bool.not_eq_true,mc];intro hm;have:=List.findIdx?_eq_none_iff.1 h x hm;simp at this
  rw[this];rfl
theorem sB(z:aO)(hv:bf z=true):NQ.Fn cx 11 [.agg (aX z)] (.d (.int .i64 (fP z))) []:=by
 have ho:=bQ hv;have hE:=ho.few;refine aT bo mixed Tryz.func11 ?_;conv=>whnf
 obtain⟨k,s,hk,hs,hp⟩:=RE (xI.1 hv).start;have fA:=Kb z ⟨z.af,4⟩ (by omega);rw[hk]at fA;obtain⟨d,hd⟩:=wD (ho.set s (aD hs));have e:fP z=d.n:=by
  unfold fP;rw[Mv ho.rising.pw hs hp,hs];simp only[hd]
 (refine bV ?_;conv=>whnf)
 (refine⟨_,_,fA,?_⟩;conv=>whnf)
 refine⟨aC k,aw s,aM hs,?_⟩;conv=>whnf
 refine⟨by decide,aQ d,by(show(s.set.data.map aQ)[(0:Int).toNat]? =_;simp[hd]),?_⟩;conv=>whnf
 exact al rfl (by rw[e];rfl)
end Go.Proofs.YtodofogcincleaaGreatDoor
