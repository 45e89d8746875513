/-
  Merged texts.
-/
import Derived.Test.YtjojkakjmoefaaaGreatDoorMVa
import Derived.Lib.SlicesDelete
import Derived.Test.YtjojkakjmoefaaaGreatDoorMDc
set_option linter.all false
set_option maxRecDepth 100000
namespace Go.Proofs.YtjojkakjmoefaaaGreatDoor
open NQ Go.RowKit
def mG:Signed:=⟨⟨[],0,0,[]⟩,[]⟩
def Small(s:Signed):Prop:=s.set.data.length<=100000/\s.sigs.length<=100000
def PK{α:Type}{l:List α}{k n:Nat}{x z:α}(j:l[k]? =some x)(G:l.length=n):(l.take k++List.replicate (n-k) z).set k x=l.take (k+1)++List.replicate (n-(k+1)) z:=by
 have D:k<l.length:=(aA.1 j).1;have h1:(l.take k).length=k:=by simp;omega
 rw[List.set_append_right _ _<|by omega,h1,Nat.sub_self,show n-k=(n-(k+1))+1 by omega,List.replicate_succ,List.set_cons_zero,cj j,List.append_assoc];rfl
def Kw{l:List Sig}{a:Bs}(h:nC l a=true):l.length<=6:=by
 simp[nC]at h;omega
def tj{s:cH}(h:eE s=true):s.data.length<=8:=by
 unfold eE at h;simp only[aK,Bool.not_eq_true',Bool.or_eq_false_iff,Bool.not_eq_false']at h;have:=h.1.1.2;simp[within]at this;omega
def ni(rows:List<|List D)(j:rows.length<=100000):NQ.Fn cx 115 [.slice 3 rows] (.d<|.slice 3 rows) []:=by
 refine bL bf mixed Tryz.func115 ?_;refine⟨λh=>?_,?_⟩
 .refine ak rfl ?_;rw[List.isEmpty_iff.1 h];rfl
 .conv=>whnf
  refine⟨by(show 0+rows.length<=_;omega),by(show(0+rows.length)*32<=_;omega),M ?_⟩
  exact ak rfl rfl
def tQ(rows:List<|List D)(j:rows.length<=100000):NQ.Fn cx 132 [.slice 6 rows] (.d<|.slice 6 rows) []:=by
 refine bL bf mixed Tryz.func132 ?_;refine⟨λh=>?_,?_⟩
 .refine ak rfl ?_;rw[List.isEmpty_iff.1 h];rfl
 .conv=>whnf
  refine⟨by(show 0+rows.length<=_;omega),by(show(0+rows.length)*56<=_;omega),M ?_⟩
  exact ak rfl rfl
def jZ:ax:=⟨[],[]⟩
def qOf(s:Signed):bO:=⟨s.set.name,s.set.type⟩
def aca(l:List Signed)(i:Nat)(s:Signed):List Signed:=l.take i++[s]++l.drop i
def XR(l:List Signed)(s:Signed):List Signed:=if dG l (qOf s)=true then l.set (posOf l<|qOf s) s else aca l (posOf l<|qOf s) s
def ZX{s:Bs}(h:aR s=true):(cu s).length<=8:=by
 have:=vt h;simp[okL]at this;exact this.1
def uA{s:Bs}(h:aR s=true):s≠[]:=by rintro rfl;revert h;decide
variable {z:ax}{s:Signed}
def Gj{i:Nat}(h:z.af[i]? =some s)(j:Ordered z):(dD z)[i]? =some (spec (cm z) s.set.name):=by
 rw[<- Gr j,tP j,bc,h];rfl
def Qi(j:Ordered z):dD z=z.af.map λs=>spec (cm z) s.set.name:=by
 rw[<- Gr j,tP j]
def Wn(D:aW z=true)(I:s∈z.af):qg s (spec (cm z) s.set.name)=false:=by
 have H:=bt D;obtain⟨i,j⟩:=cO I;simp only[aW,aK]at D;have G:=D.2.1.1.2;simp only[sK,aG]at G;have:=G i<|List.mem_range.2 (aA.1 j).1;simp only[cutAt,j,Gj j H]at this;simpa using this
def jD(ag c:Bs):∀(l:List Signed),c∈dv ag l ↔ ∃s∈l,eS ag s=true/\s.set.name=c
 |[]=>by simp[dv]
 |s::t=>by
  have H:=jD ag c t;unfold dv;split
  .rename_i h;rw[List.mem_cons,H];constructor
   .rintro(rfl|⟨x,j,k⟩)
    .exact⟨s,List.mem_cons_self .., h,rfl⟩
    .exact⟨x,aZ _ j,k⟩
   .rintro⟨x,j,D,G⟩;rcases List.mem_cons.1 j with rfl|j
    .exact .inl G.symm
    .exact .inr ⟨x,j,D,G⟩
  .rename_i h;rw[H];constructor
   .rintro⟨x,j,k⟩;exact⟨x,aZ _ j,k⟩
   .rintro⟨x,j,D,G⟩;rcases List.mem_cons.1 j with rfl|j
    .exact absurd D h
    .exact⟨x,j,D,G⟩
def Vo{s:Bs}(h:aR s=true):(s==[])=false:=by have:=uA h;simpa using this
variable {c:Bs}
def JN(N:aW z=true)(J:c∈dv z.ag z.af):c∈cm z:=by
 have K:=bt N;obtain⟨T,U,G⟩:=oe K;obtain⟨s,V,j,rfl⟩:=(jD _ _ _).1 J;obtain⟨g,H,X⟩:=G _ J;have I:=pU T U H X;have D:=Wn N V;rw[I]at D;have W:s.set.type=2:=by simp[eS]at j;exact j.1
 unfold qg at D;rw[if_neg<|by rw[Vo<|sR K H];exact Bool.false_ne_true]at D;split at D
 .rename_i e;rw[<- beq_iff_eq.1 e];exact H
 .rw[W]at D;cases D
variable {n:Bs}
def Pg(D:n≠z.ag):dG z.af ⟨n,2⟩=true ↔ n∈dv z.ag z.af:=by
 rw[jD];simp only[dG,List.any_eq_true,is,aK,beq_iff_eq,eS,Bool.not_eq_true',beq_eq_false_iff_ne];constructor
 .rintro⟨s,G,h1,j⟩;exact⟨s,G,⟨j,by rw[h1];exact D⟩,h1⟩
 .rintro⟨s,G,⟨h1,_⟩,j⟩;exact⟨s,G,j,h1⟩
def wb{a b:Bs}(h:bd a b=true)(k:bd b c=true):bd a c=true:=by
 rw[gU]at *; exact k.trans h
def yn{a b:Bs}(h:bd a b=true)(k:bd b a=true):a=b:=by
 rw[gU]at *;exact Ce<|(k.eq_of_length<|Nat.le_antisymm k.length_le h.length_le)
def LK(D:aR n=true)(h:bd n c=true)(j:n≠c):bd (fg n) c=true:=(yo D h j).2.1
def KZ(j:aR n=true):bd n (fg n)=true:=by
 unfold bd;rw[BC j];exact List.isSuffixOf_iff_suffix.2<|List.tail_suffix _
def xn{z:ax}:∀{f:Nat} {n c:Bs},aR n=true->rq z f n=some c->c∈dv z.ag z.af/\bd n c=true
 |0,n,c,_,h=>by simp[rq]at h
 |f+1,n,c,D,h=>by
  unfold rq at h;split at h
  .cases h
  .rename_i j;split at h
   .rename_i H;cases h;exact⟨(Pg j).1 H,kV n⟩
   .obtain⟨h1,G⟩:=xn (nH D) h;exact⟨h1,wb (KZ D) G⟩
def Dp{z:ax}(J:Ordered z):∀{f:Nat} {n:Bs},aR n=true->bd n z.ag=true->f=(cu n).length+1->rq z f n=none-> ∀c∈dv z.ag z.af,bd n c=false
 |0,n,_,_,W,_=>by omega
 |f+1,n,T,Y,W,h=>by
  intro c K;obtain⟨s,U,D,I⟩:=(jD _ _ _).1 K;have N:bd c z.ag=true:=by
   have:=J.under s U;unfold bD at this;rw[if_pos ⟨J.name s U,J.ag⟩]at this;rw[<- I];exact this
  have H :c≠z.ag:=by simp[eS]at D;rw[<- I];exact D.2
  unfold rq at h;split at h
  .rename_i e;cases j:bd n c with
   |false=>rfl
   |true=>rw[e]at j;exact absurd (yn N j) H
  .rename_i G;split at h
   .cases h
   .rename_i X;obtain⟨_,Z,k3⟩:=yo T Y G;have V:=Dp J (nH T) Z (by omega) h c K;cases j:bd n c with
    |false=>rfl
    |true =>
     by_cases e:n=c
     .subst e;exact absurd ((Pg G).2 K) X
     .rw[LK T j e]at V;cases V
def To(H:aW z=true)(G:aR n=true)(T:bd n z.ag=true) :
 (yV z n=none/\spec (cm z) n=[])\/ ∃c,yV z n=some c/\spec (cm z) n=c/\c∈cm z/\c≠[]:=by
 have D:=bt H;obtain⟨J,K,_⟩:=oe D;cases h:yV z n with
 |none=>exact .inl ⟨rfl,vo λc N=>Dp D G T rfl h c<|tX N⟩
 |some c =>
  obtain⟨h1,I⟩:=xn G h;have j:=JN H h1;exact .inr ⟨c,rfl,pU J K j I,j,uA<|sR D j⟩
def VQ{l:List Bs}(h:Asc l)(G:∀a∈l,bl a n<0):Asc (l++[n]) :=
 List.pairwise_append.2 ⟨h,List.pairwise_singleton _ _,λa j b D=>by rw[List.mem_singleton.1 D];exact G a j⟩
def xL:∀(L:List<|Signed×Bs) (acc:List Bs),Asc acc->L.Pairwise (λa b=>bl a.1.set.name b.1.set.name<=0)->(∀a∈acc,∀p∈L,bl a p.1.set.name<=0) ->
 Asc (nam acc L)/\acc <+: nam acc L/\ ∀n,n∈nam acc L ↔ n∈acc\/ ∃p∈L,p.1.set.name=n/\rY n p.2=false
 |[],acc,h,_,_=>⟨h,List.prefix_refl _,λn=>by simp[nam]⟩
 |(s,b)::t,acc,h,hp,T=>by
  obtain⟨p1,p2⟩:=List.pairwise_cons.1 hp;unfold nam;have j:∀a∈acc,∀p∈t,bl a p.1.set.name<=0:=λa G p W=>T a G p<|aZ _ W
  by_cases V:rY s.set.name b=true
  .rw[if_pos V];obtain⟨J,K,N⟩:=xL t acc h p2 j;refine⟨J,K,λn=>?_⟩;rw[N n];constructor
   .rintro(k|⟨p,hp,k⟩)
    .exact .inl k
    .exact .inr ⟨p,aZ _ hp,k⟩
   .rintro(k|⟨p,hp,H,I⟩)
    .exact .inl k
    .rcases List.mem_cons.1 hp with rfl|hp
     .subst H;exact absurd V (by simp[I])
     .exact .inr ⟨p,hp,H,I⟩
  .rw[if_neg V];have X :rY s.set.name b=false:=by simpa using V
   by_cases D:ui acc s.set.name=true
   .rw[if_pos D];have Z:∀a∈acc,bl a s.set.name<0:=λa G=>by
     have U:acc.length≠0:=by intro e;rw[List.length_eq_zero_iff]at e;rw[e]at G;cases G
     have h1:=Cc h U a G;have h2:=T (kL acc) (nE U) (s,b) (List.mem_cons_self ..);have h3:kL acc≠s.set.name:=by
      simp only[ui,Bool.or_eq_true,beq_iff_eq,Bool.not_eq_true',beq_eq_false_iff_ne]at D;rcases D with k|k
      .omega
      .exact k
     have h4:bl (kL acc) s.set.name<0:=by
      rcases bI.range (kL acc) s.set.name with e|e|e
      .omega
      .exact absurd ((bI.zero _ _).1 e) h3
      .simp only at h2;omega
     rcases bI.range a (kL acc)with e|e|e
     .exact Jw (by omega) h4
     .rw[(bI.zero _ _).1 e];exact h4
     .omega
    obtain⟨J,K,N⟩:=xL t (acc++[s.set.name]) (VQ h Z) p2 λa G p W=>by
     rcases List.mem_append.1 G with G|G
     .exact j a G p W
     .rw[List.mem_singleton.1 G];exact p1 p W
    refine⟨J,(List.prefix_append _ _).trans K,λn=>?_⟩;rw[N n];constructor
    .rintro(k|⟨p,hp,k⟩)
     .rcases List.mem_append.1 k with k|k
      .exact .inl k
      .rw[List.mem_singleton.1 k];exact .inr ⟨(s,b),List.mem_cons_self .., rfl,X⟩
     .exact .inr ⟨p,aZ _ hp,k⟩
    .rintro(k|⟨p,hp,H,I⟩)
     .exact .inl<|List.mem_append_left _ k
     .rcases List.mem_cons.1 hp with rfl|hp
      .subst H;exact .inl<|List.mem_append_right _<|List.mem_singleton.2 rfl
      .exact .inr ⟨p,hp,H,I⟩
   .rw[if_neg D];have Y:s.set.name∈acc:=by
     simp only[ui,Bool.or_eq_true,beq_iff_eq,Bool.not_eq_true',beq_eq_false_iff_ne,not_or]at D;have:kL acc=s.set.name:=Classical.byContradiction λk=>D.2 k
     rw[<- this];exact nE (by omega)
    obtain⟨J,K,N⟩:=xL t acc h p2 j;refine⟨J,K,λn=>?_⟩;rw[N n];constructor
    .rintro(k|⟨p,hp,k⟩)
     .exact .inl k
     .exact .inr ⟨p,aZ _ hp,k⟩
    .rintro(k|⟨p,hp,H,I⟩)
     .exact .inl k
     .rcases List.mem_cons.1 hp with rfl|hp
      .subst H;exact .inl Y
      .exact .inr ⟨p,hp,H,I⟩
def abX(j:Ordered z):z.af.zip (dD z)=z.af.map λs=>(s,spec (cm z) s.set.name):=by
 rw[Qi j];induction z.af with
 |nil=>rfl
 |cons a t D=>simp[D]
def xN(N:aW z=true):Asc (fU z)/\ ∀n,n∈fU z ↔ ∃s∈z.af,s.set.name=n/\(spec (cm z) n=[]\/spec (cm z) n=n):=by
 have D:=bt N;unfold fU;rw[abX D];obtain⟨I,_,J⟩:=xL (z.af.map λs=>(s,spec (cm z) s.set.name)) [] List.Pairwise.nil (by
  rw[List.pairwise_map];exact pR D.rising) (λa K=>by cases K)
 refine⟨I,λn=>?_⟩;rw[J n];simp only[List.mem_map,rY,Bool.and_eq_false_iff,Bool.not_eq_false',beq_iff_eq];constructor
 .rintro(k|⟨p,⟨s,j,rfl⟩,G,H⟩)
  .cases k
  .simp only at G H;subst G;exact⟨s,j,rfl,H⟩
 .rintro⟨s,j,rfl,k⟩;exact .inr ⟨_,⟨s,j,rfl⟩,rfl,k⟩
def UO(j:Ordered z)(D:s∈z.af):bd s.set.name z.ag=true:=by
 have:=j.under s D;unfold bD at this;rw[if_pos ⟨j.name s D,j.ag⟩]at this;exact this
def JK(p:Bs×Int):cpl p p=0:=(lH.zero _ _).2 rfl
def lS{a b:Bs×Int}(h:cpl a b<0):a≠b:=λe=>by subst e;rw[JK]at h;omega
def Wj{a b:Bs×Int}(h:cpl a b<0)(k:cpl b a<0):False:=by have:=lH.lE a b;omega
abbrev RP(l:List Signed):Prop:=l.Pairwise λa b=>cpl a.place b.place<0
def fo.pw:∀{l:List Signed},fo l->RP l
 |[],_=>List.Pairwise.nil
 |x::t,h=>List.Pairwise.cons (pQ h) h.tail.pw
def RP.rising:∀{l:List Signed},RP l->fo l
 |[],_=>trivial
 |[_],_=>trivial
 |a::b::t,h=>⟨(List.pairwise_cons.1 h).1 b (List.mem_cons_self ..),RP.rising (List.pairwise_cons.1 h).2⟩
def RP.ext:∀{a b:List Signed},RP a->RP b->(∀x,x∈a ↔ x∈b)->a=b
 |[],[],_,_,_=>rfl
 |[],y::b,_,_,h=>by have:=(h y).2 (List.mem_cons_self ..);cases this
 |x::a,[],_,_,h=>by have:=(h x).1 (List.mem_cons_self ..);cases this
 |x::a,y::b,K,N,h=>by
  obtain⟨G,I⟩:=List.pairwise_cons.1 K;obtain⟨H,J⟩:=List.pairwise_cons.1 N;have D:x=y:=by
   rcases List.mem_cons.1 ((h x).1 (List.mem_cons_self ..))with e|hx
   .exact e
   .rcases List.mem_cons.1 ((h y).2 (List.mem_cons_self ..))with e|hy
    .exact e.symm
    .exact(Wj (H x hx)<|G y hy).elim
  subst D
  congr 1
  refine RP.ext I J λz=>⟨λj=>?_,λj=>?_⟩
  .rcases List.mem_cons.1 ((h z).1<|aZ _ j)with rfl|hz'
   .exact(lS (G _ j) rfl).elim
   .exact hz'
  .rcases List.mem_cons.1 ((h z).2<|aZ _ j)with rfl|hz'
   .exact(lS (H _ j) rfl).elim
   .exact hz'
def RP.uniq:∀{l:List Signed},RP l-> ∀{a b:Signed},a∈l->b∈l->a.place=b.place->a=b
 |[],_,_,_,j,_,_=>by cases j
 |x::l,h,a,b,j,G,e=>by
  obtain⟨h1,D⟩:=List.pairwise_cons.1 h;rcases List.mem_cons.1 j with ha' |ha'<;>rcases List.mem_cons.1 G with hb' |hb'
  .rw[ha',hb']
  .subst ha';exact(lS (h1 b hb') e).elim
  .subst hb';exact(lS (h1 a ha') e.symm).elim
  .exact RP.uniq D ha' hb' e
variable {l:List Signed}
def lK{q:bO}:dG l q=true ↔ ∃s∈l,s.place=q.place:=by
 simp only[dG,List.any_eq_true,wA]
def rem(q:bO)(l:List Signed):List Signed:=l.filter λx=> !is q x
def vj{s:cH}(h:eE s=true):1<=s.type/\s.type<=8:=by
 unfold eE at h;simp only[aK,Bool.not_eq_true',Bool.or_eq_false_iff,Bool.not_eq_false']at h;have:=h.1.1.1.1.2;simp[within]at this;exact this
def Gn(I:Ordered z):aliases z=true ↔ ∀s∈z.af,∀x∈z.af,s.set.type=3->x.set.name=s.set.name->x.set.type=3\/x.set.type=8:=by
 unfold aliases;rw[aG];constructor
 .intro h s J x hx N U;obtain⟨i,D⟩:=cO J;obtain⟨j,H⟩:=cO hx;have G:=(aA.1 D).1;have hc:=(aA.1 H).1;obtain⟨p,hp⟩:∃p,z.af[i-1]? =some p:=⟨_,ao<|by omega⟩
  have Y:=h i<|List.mem_range.2 G;refine Decidable.byContradiction λX=>?_
  have V:x.set.type≠3:=λe=>X<|.inl e
  have W:x.set.type≠8:=λe=>X<|.inr e
  have T:rj z i=false:=by
   refine(Jg D hp).2 ⟨N,?_⟩;rcases Nat.lt_trichotomy j i with hlt|heq|hgt
   .left
    refine⟨by omega,?_⟩;rcases Nat.lt_or_eq_of_le (show j<=i-1 by omega)with k|k
    .have K:=(qT<|lV I.rising k H hp).1;have a2:=(qT<|lV I.rising (show i-1<i by omega) hp D).1;rw[U]at K;exact(YJ K a2).symm
    .rw[<- k,H]at hp;cases hp;exact U
   .subst heq;rw[D]at H;cases H;exact absurd N V
   .right
    rcases Nat.lt_or_eq_of_le (show i+1<=j by omega)with k|k
    .obtain⟨y,hy⟩:∃y,z.af[i+1]? =some y:=⟨_,ao<|by omega⟩
     have K:=qT<|lV I.rising k hy H;have a2:=(qT<|lV I.rising (show i<i+1 by omega) D hy).1;have ha:y.set.name=s.set.name:=by
      have:=K.1;rw[U]at this;exact YJ this a2
     refine⟨y,hy,ha,?_⟩;have:=K.2<|ha.trans U.symm;have:=(vj<|I.set x hx).2;omega
    .exact⟨x,by rw[k];exact H,U,W⟩
  rw[T]at Y;cases Y
 .intro h i D;have G:=List.mem_range.1 D;obtain⟨s,J⟩:∃s,z.af[i]? =some s:=⟨_,ao G⟩
  obtain⟨p,hp⟩:∃p,z.af[i-1]? =some p:=⟨_,ao<|by omega⟩
  cases hb:rj z i with
  |true=>rfl
  |false =>
   obtain⟨N,k⟩:=(Jg J hp).1 hb;have Z:=aw J;rcases k with ⟨k1,k2⟩|⟨x,k1,k2,k3⟩
   .have:=(qT<|lV I.rising (show i-1<i by omega) hp J).2 k2;rcases h s Z p (aw hp) N k2 with e|e<;>omega
   .have:=(qT<|lV I.rising (show i<i+1 by omega) J k1).2 k2.symm;rcases h s Z x (aw k1) N k2 with e|e
    .omega
    .exact absurd e k3
def oY{α:Type}{l:List α}{p:Nat->Bool}{q:α->Bool}(h:∀i s,l[i]? =some s->p i=q s):(List.range l.length).all p=true ↔ ∀s∈l,q s=true:=by
 rw[aG];constructor
 .intro k s D;obtain⟨i,j⟩:=cO D;rw[<- h i s j];exact k i<|List.mem_range.2 (aA.1 j).1
 .intro k i j;have j:=List.mem_range.1 j;rw[h i _<|ao j];exact k _<|List.getElem_mem j
def Ordered.bool(h:Ordered z):ordered z=true:=by
 unfold ordered;have D:(List.range z.af.length).all (xU z)=true:=by
  rw[aG];intro i G;have G:=List.mem_range.1 G;obtain⟨s,I⟩:∃s,z.af[i]? =some s:=⟨_,ao G⟩
  obtain⟨p,hp⟩:∃p,z.af[i-1]? =some p:=⟨_,ao<|by omega⟩
  have j:=aw I;have H:=aw hp;rw[CD I hp,rZ,h.set s j,h.under s j,Ch _ _ (h.name p H)<|h.name s j];by_cases h0:i=0
  .subst h0;rfl
  .have:=lV h.rising (show i-1<i by omega) hp I;have e:cpl (p.set.name,p.set.type) (s.set.name,s.set.type)<0:=this;have J:¬cpl (p.set.name,p.set.type) (s.set.name,s.set.type)>=0:=by omega
   simp[J]
 have K:¬((z.af.length:Int)>20000):=by have:=h.few;omega
 rw[D,h.ag,h.Yq];simp[K]
structure Val(z:ax):Prop where
 ord:Ordered z
 start:dG z.af ⟨z.ag,4⟩=true
 abG:dG z.af ⟨z.ag,2⟩=true
 fit:∀s∈z.af,fits s.set.type (s.set.name==z.ag)=true
 ali:∀s∈z.af,∀x∈z.af,s.set.type=3->x.set.name=s.set.name->x.set.type=3\/x.set.type=8
 cut:∀s∈z.af,qg s (spec (cm z) s.set.name)=false
 sig:∀s∈z.af,sf s (spec (cm z) s.set.name)=false
 form:∀s∈z.af,nC s.sigs z.ag=true
def Pc(z:ax):(List.range z.af.length).all (uQ z)=true ↔ ∀s∈z.af,fits s.set.type (s.set.name==z.ag)=true :=
 oY λi s h=>by unfold uQ;rw[h]
def Ki(z:ax):xA z=true ↔ ∀s∈z.af,nC s.sigs z.ag=true :=
 oY λi s h=>by unfold sP;rw[h]
def uL(j:Ordered z):sK z (dD z)=true ↔ ∀s∈z.af,qg s (spec (cm z) s.set.name)=false:=by
 unfold sK;rw[oY (q:=λs=> !qg s (spec (cm z) s.set.name)) λi s h=>by unfold cutAt;rw[Gj h j,h]];simp only[Bool.not_eq_true']
def Hn(j:Ordered z):yf z (dD z)=true ↔ ∀s∈z.af,sf s (spec (cm z) s.set.name)=false:=by
 unfold yf;rw[oY (q:=λs=> !sf s (spec (cm z) s.set.name)) λi s h=>by unfold yd;rw[Gj h j,h]];simp only[Bool.not_eq_true']
def rf:aW z=true ↔ Val z:=by
 constructor
 .intro h;have j:=bt h;unfold aW rl at h;simp only[aK]at h;obtain⟨⟨_,⟨⟨D,G⟩,H⟩⟩,⟨⟨I,J⟩,K⟩,N⟩:=h;exact⟨j,D,G,(Pc z).1 H,(Gn j).1 I,(uL j).1 J,(Hn j).1 K,(Ki z).1 N⟩
 .intro h;unfold aW rl;dsimp only;rw[h.ord.bool,h.start,h.abG,(Pc z).2 h.fit,(Gn h.ord).2 h.ali,(uL h.ord).2 h.cut,(Hn h.ord).2 h.sig,(Ki z).2 h.form];rfl
def tn(X:Ordered z)(n:Bs):(spec (cm z) n=[]/\ ∀c∈dv z.ag z.af,bd n c=false) \/
 (spec (cm z) n∈dv z.ag z.af/\bd n (spec (cm z) n)=true/\ ∀c∈dv z.ag z.af,bd n c=true->bd c (spec (cm z) n)=true):=by
 obtain⟨N,T,U⟩:=oe X;by_cases J:∃h∈cm z,bd n h=true
 .obtain⟨h,H,G⟩:=J;have e:=pU N T H G;rw[e];refine .inr ⟨tX H,G,λc I W=>?_⟩;obtain⟨g,D,j⟩:=U c I;have V:=pU N T D<|wb W j;rw[<- e,V];exact j
 .have K:∀h∈cm z,bd n h=false:=λh H=>by
   cases G:bd n h with
   |false=>rfl
   |true=>exact(J ⟨h,H,G⟩).elim
  refine .inl ⟨vo K,λc I=>?_⟩;cases G:bd n c with
  |false=>rfl
  |true =>
   obtain⟨g,D,j⟩:=U c I;exact(J ⟨g,D,wb G j⟩).elim
def Tq(D:Ordered z)(h:c∈dv z.ag z.af):c≠[]/\c≠z.ag/\aR c=true/\bd c z.ag=true/\dG z.af ⟨c,2⟩=true:=by
 obtain⟨s,j,h1,G⟩:=(jD _ _ _).1 h;subst G;unfold eS at h1;simp only[aK,beq_iff_eq,Bool.not_eq_true',beq_eq_false_iff_ne]at h1;exact⟨uA<|D.name s j,h1.2,D.name s j,UO D j,lK.2 ⟨s,j,by show(s.set.name,s.set.type)=_;rw[h1.1];rfl⟩⟩
def Sd{y:ax}(N:Ordered z)(K:Ordered y)(h:∀c,c∈dv z.ag z.af ↔ c∈dv y.ag y.af)(n:Bs):spec (cm z) n=spec (cm y) n:=by
 rcases tn N n with ⟨j,D⟩|⟨j,D,I⟩<;>rcases tn K n with ⟨G,H⟩|⟨G,H,J⟩
 .rw[j,G]
 .have:=D _<|(h _).2 G;rw[H]at this;cases this
 .have:=H _<|(h _).1 j;rw[D]at this;cases this
 .exact yn (J _ ((h _).1 j) D)<|I _ ((h _).2 G) H
def LL(j:aW z=true)(H:c∈dv z.ag z.af)(I:bd n c=true):spec (cm z) n=c:=by
 obtain⟨D,G,_⟩:=oe<|bt j;exact pU D G (JN j H) I
def Wp{y:ax}(G:y.ag=z.ag)(h:∀x∈y.af,x∈z.af)(D:c∈dv y.ag y.af):c∈dv z.ag z.af:=by
 obtain⟨s,H,h1,j⟩:=(jD _ _ _).1 D;exact(jD _ _ _).2 ⟨s,h s H,G ▸ h1,j⟩
def Vg{y:ax}(H:aW z=true)(D:y.ag=z.ag)(G:Ordered y)(h:∀x∈y.af,x∈z.af)(N:dG y.af ⟨y.ag,4⟩=true)(K:dG y.af ⟨y.ag,2⟩=true)(T:sK y (dD y)=true):aW y=true:=by
 have V:=rf.1 H;refine rf.2 ⟨G,N,K,λx j=>D ▸ V.fit x (h x j),λs U x j=>V.ali s (h s U) x<|h x j,(uL G).1 T,λx j=>?_,λx j=>D ▸ V.form x (h x j)⟩;rcases tn G x.set.name with ⟨e,_⟩|⟨I,J,_⟩
 .rw[e];simp[sf]
 .have:=V.sig x (h x j)
  rwa [LL H (Wp D h I) J]at this
def wZ{q:bO}(h:dG l q=true):∃(k:Nat) (s:Signed),atI l q=k/\l[k]? =some s/\s.place=q.place:=by
 unfold atI;cases j:l.findIdx? (is q)with
 |none =>
  rw[List.findIdx?_eq_none_iff]at j;unfold dG at h;rw[List.any_eq_true]at h;obtain⟨s,G,e⟩:=h;rw[j s G]at e;cases e
 |some k =>
  obtain⟨h1,D,_⟩:=List.findIdx?_eq_some_iff_getElem.1 j;exact⟨k,l[k],rfl,ao h1,(wA q _).1 D⟩
def SR(I:RP l){q:bO}{k:Nat}(G:l[k]? =some s)(hp:s.place=q.place):posOf l q=k:=by
 unfold posOf;have h1:l=l.take k++s::l.drop (k+1):=by
  obtain⟨D,e⟩:=aA.1 G;conv=>lhs;rw[<- List.take_append_drop k l,List.drop_eq_getElem_cons D,e]
 have D:k<l.length:=(aA.1 G).1;have H:∀x∈l.take k,decide (cpl x.place q.place<0)=true:=λx J=>by
  have j :=I;rw[h1]at j;have:=(List.pairwise_append.1 j).2.2 x J s (List.mem_cons_self ..);rw[<- hp];simpa using this
 conv=>lhs;rw[h1]
 rw[List.takeWhile_append_of_pos H,List.takeWhile_cons,if_neg<|by rw[hp,JK];simp];simp;omega
def dh(z:ax)(n:Bs):Bs:=((dv z.ag z.af).find? λc=>bd n c).getD []
def Wl(D:aW z=true)(n:Bs):dh z n=spec (cm z) n:=by
 unfold dh;cases j:(dv z.ag z.af).find? λc=>bd n c with
 |none =>
  rw[List.find?_eq_none]at j;rcases tn (bt D) n with ⟨e,_⟩|⟨G,H,_⟩
  .rw[e];rfl
  .exact absurd H<|j _ G
 |some c =>
  have h1:=List.find?_some j;have I:=List.mem_of_find?_eq_some j;rw[LL D I h1];rfl
def ZA(j:aW z=true)(H:aR n=true)(J:bd n z.ag=true):gO z n=(dh z n, !(dh z n==[]),0):=by
 have N:=(bt j).ag;have I :(bD n z.ag).1=true:=by unfold bD;rw[if_pos ⟨H,N⟩];exact J
 rw[Wl j];unfold gO;rw[if_neg<|by simp[j,H],if_neg<|by simp[I]];rcases To j H J with ⟨D,G⟩|⟨c,D,G,_,K⟩
 .rw[D,G];rfl
 .rw[D,G];have:(c==[])=false:=by simpa using K
  rw[this];rfl
def ref(o:Bool)(s:Signed):Bool:=o||(s.set.type==2)
def mark(s:Signed)(o:Bool):Bs:=if ref o s=true then[]else s.set.name++[0]
structure View where
 ag:Bs
 af:List Signed
 q:bO
 cut:Bs
 behind:Bool
 eG:Bs
def mC:Nat->List Signed->List (List D×D)
 |_,[]=>[]
 |i,s::t=>(eY<|qOf s,.int .i64 i)::mC (i+1) t
def dW(v:View):List D:=[.str v.ag,.slice 5<|v.af.map an,.cS<|mC 0 v.af,.str v.q.name,.int .i64 v.q.type,.str v.cut,.bool v.behind,.str v.eG]
def ZV(q:bO)(s:Signed):dO [.str,.int .i64] ((eY q).map .d) ((eY<|qOf s).map .d)=some (is q s):=by
 show some ((q.name==s.set.name)&&((q.type==s.set.type)&&true))=_
 rw[gF];unfold is
 congr 1
 rw[Bool.beq_comm (a:=q.name),Bool.beq_comm (a:=q.type)]
def FF(q:bO):∀(l:List Signed) (i:Nat),qm [.str,.int .i64] (eY q) (mC i l)=some ((l.findIdx?<|is q).map λk=>D.int .i64 ((i+k:Nat):Int))
 |[],i=>rfl
 |s::t,i=>by
  rw[mC,qm,ZV];cases h:is q s with
  |true=>simp[List.findIdx?_cons,h]
  |false =>
   simp only;rw[FF q t<|i+1,List.findIdx?_cons,h];simp only[eV,if_false];cases t.findIdx? (is q)<;>simp;omega
def sy(l:List Signed)(n:Bs):Nat:=(l.takeWhile λs=>decide<|bl s.set.name n<0).length
def aaA(l:List Signed)(n:Bs):sy l n<=l.length:=(List.takeWhile_sublist _).length_le
def xW{n:Bs}:∀{l:List Signed},l.Pairwise (λa b=>bl a.set.name b.set.name<=0)-> ∀{i:Nat} {s:Signed},l[i]? =some s->(sy l n<=i ↔ 0<=bl s.set.name n)
 |[],_,i,s,h=>by cases h
 |x::l,hp,i,s,h=>by
  obtain⟨h1,D⟩:=List.pairwise_cons.1 hp;unfold sy;rw[List.takeWhile_cons];by_cases j:bl x.set.name n<0
  .rw[if_pos<|by simpa using j,List.length_cons];cases i with
   |zero=>cases h;exact⟨λh=>by omega,λh=>by omega⟩
   |succ i =>
    have:=xW (n:=n) D (i:=i) (s:=s) (by simpa using h);unfold sy at this;omega
  .rw[if_neg<|by simpa using j,List.length_nil];refine⟨λ_=>?_,λ_=>Nat.zero_le _⟩;cases i with
   |zero=>cases h;omega
   |succ i =>
    have I:s∈l:=aw (i:=i) (by simpa using h);have G:=h1 s I;by_cases H:bl s.set.name n<0
    .exact absurd (bI.acd G H) j
    .omega
def exB(l:List Signed)(n:Bs):Bool:=match l[sy l n]? with|some s=>(bD s.set.name n).1|none=>false
def BE(a b:Bs):NQ.Fn cx 204 [.str a,.str b] (.d<|.int .i64 (dE a b).1) []:=by
 refine bL bf mixed Tryz.func204 ?_
 (refine⟨_,_,wS a b,M ?_⟩)
 exact ak rfl rfl
def GV(a b:Bs):NQ.Fn cx 157 [.str a,.str b] (.d<|.bool (bD a b).1) []:=by
 refine bL bf mixed Tryz.func157 ?_
 (refine⟨_,_,pd a b,M ?_⟩)
 exact ak rfl rfl
def RU(n c:Nat)(x y:D)(U:n<=100000)(K:c<=n)(N:∀i:Nat,i<n->NQ.Fn cx 203 [.int .i64 i,x,y] (.d<|.bool<|decide<|c<=i) []) :
 NQ.Fn cx 202 [.int .i64 n,.fn 203 [] [x,y]] (aj c) []:=by
 refine bL bf mixed Tryz.func202 ?_;refine⟨Nat×Nat,λz=>⟨[(1,.d<|.fn 203 [] [x,y]),(5,aj z.1),(6,aj z.2)],[]⟩,λz=>z.1<=c/\c<=z.2/\z.2<=n,λz=>z.2-z.1,
  ⟨(0,n),⟨Nat.zero_le _,K,Nat.le_refl _⟩,aI.keep⟩,?_⟩
 rintro⟨i,j⟩ ⟨h1,I,J⟩;simp only at h1 I J;conv=>whnf
 refine aD ?_ ?_<;>intro G
 .have T:i<j:=by simp at G;omega
  rw[DQ<|by omega]
  (refine⟨_,_,N ((i+j) / 2)<|by omega,M ?_⟩)
  refine aD ?_ ?_<;>intro h
  .have G:(i+j) / 2<c:=by simp at h;omega
   exact⟨((i+j) / 2+1,j),⟨G,I,J⟩,by(show j-((i+j) / 2+1)<j-i;omega),aI.keep⟩
  .have H:c<=(i+j) / 2:=by simp at h;omega
   exact⟨(i,(i+j) / 2),⟨h1,H,by(show(i+j) / 2<=n;omega)⟩,by(show(i+j) / 2-i<j-i;omega),aI.keep⟩
 .obtain rfl:i=c:=by simp at G;omega
  exact ak rfl rfl
def RV(n c:Nat)(x y:D)(U:n<=100000)(K:c<=n)(N:∀i:Nat,i<n->NQ.Fn cx 223 [.int .i64 i,x,y] (.d<|.bool<|decide<|c<=i) []) :
 NQ.Fn cx 202 [.int .i64 n,.fn 223 [] [x,y]] (aj c) []:=by
 refine bL bf mixed Tryz.func202 ?_;refine⟨Nat×Nat,λz=>⟨[(1,.d<|.fn 223 [] [x,y]),(5,aj z.1),(6,aj z.2)],[]⟩,λz=>z.1<=c/\c<=z.2/\z.2<=n,λz=>z.2-z.1,
  ⟨(0,n),⟨Nat.zero_le _,K,Nat.le_refl _⟩,aI.keep⟩,?_⟩
 rintro⟨i,j⟩ ⟨h1,I,J⟩;simp only at h1 I J;conv=>whnf
 refine aD ?_ ?_<;>intro G
 .have T:i<j:=by simp at G;omega
  rw[DQ<|by omega]
  (refine⟨_,_,N ((i+j) / 2)<|by omega,M ?_⟩)
  refine aD ?_ ?_<;>intro h
  .have G:(i+j) / 2<c:=by simp at h;omega
   exact⟨((i+j) / 2+1,j),⟨G,I,J⟩,by(show j-((i+j) / 2+1)<j-i;omega),aI.keep⟩
  .have H:c<=(i+j) / 2:=by simp at h;omega
   exact⟨(i,(i+j) / 2),⟨h1,H,by(show(i+j) / 2<=n;omega)⟩,by(show(i+j) / 2-i<j-i;omega),aI.keep⟩
 .obtain rfl:i=c:=by simp at G;omega
  exact ak rfl rfl
def mi(v:View)(n:Bs)(t:Int):NQ.Fn cx 156 [.ptr<|dW v,.str n,.int .i64 t] (aj<|atI v.af ⟨n,t⟩) []:=by
 refine bL bf mixed Tryz.func156 ?_;have j:=FF ⟨n,t⟩ v.af 0;unfold atI;cases D:v.af.findIdx? (is ⟨n,t⟩)with
 |some k =>
  rw[D]at j;refine⟨some<|.int .i64 k,by rw[Option.map_some,Nat.zero_add]at j;exact j,M ?_⟩
  exact ak rfl rfl
 |none =>
  rw[D]at j;refine⟨none,j,M ?_⟩
  exact ak rfl rfl
def yj(v:View):NQ.Fn cx 160 [.ptr<|dW v] (aj<|atI v.af ⟨v.ag,4⟩) []:=by
 refine bL bf mixed Tryz.func160 ?_
 (refine⟨_,_,mi v v.ag 4,M ?_⟩)
 exact ak rfl rfl
def QG(v:View)(n:Bs)(i:Nat)(s:Signed)(j:v.af[i]? =some s):NQ.Fn cx 203 [.int .i64 i,.ptr [.ptr<|dW v],.ptr [.str n]] (.d<|.bool<|decide<|(dE s.set.name n).1>=0) []:=by
 refine bL bf mixed Tryz.func203 ?_
 (refine bJ<|M ?_)
 refine⟨aB i,an s,aL j,M ?_⟩
 (refine⟨_,_,BE s.set.name n,M ?_⟩)
 exact ak rfl rfl
def zh(v:View)(n:Bs)(T:v.af.length<=100000)(U:fo v.af)(V:∀s∈v.af,aR s.set.name=true)(H:aR n=true):NQ.Fn cx 159 [.ptr<|dW v,.str n] (.d<|.bool<|exB v.af n) []:=by
 refine bL bf mixed Tryz.func159 ?_;have hp:=pR U;have D:=aaA v.af n;have J:=RU v.af.length (sy v.af n) (.ptr [.ptr<|dW v]) (.ptr [.str n]) T D (λi N=>by
  obtain⟨s,G⟩:∃s,v.af[i]? =some s:=⟨_,ao N⟩
  have h:=QG v n i s G;have e:decide ((dE s.set.name n).1>=0)=decide (sy v.af n<=i):=by
   have K:(dE s.set.name n).1=bl s.set.name n:=by unfold dE;rw[if_pos ⟨V s<|aw G,H⟩]
   rw[K,decide_eq_decide];exact(xW hp G).symm
  rwa [e]at h)
 have I:((v.af.map an).length:Int)=(v.af.length:Int):=by rw[au]
 rw[I];refine⟨_,J,rfl,M ?_⟩
 (refine bJ<|M ?_)
 rw[I];unfold exB;cases j:v.af[sy v.af n]? with
 |none =>
  have:decide (((sy v.af n:Nat):Int)<(v.af.length:Int))=false:=by
   rw[List.getElem?_eq_none_iff]at j;rw[decide_eq_false];omega
  rw[this];conv=>whnf
  exact ak rfl rfl
 |some s =>
  have:decide (((sy v.af n:Nat):Int)<(v.af.length:Int))=true:=by
   have:=(aA.1 j).1;rw[decide_eq_true];omega
  rw[this];conv=>whnf
  refine⟨aB _,an s,aL j,M ?_⟩
  (refine⟨_,_,GV s.set.name n,M ?_⟩)
  exact ak rfl rfl
def Xd(l:List Int)(x:Int)(N:l.length<=100000):NQ.Fn cx 124 [.slice 1<|l.map eN,.int .i64 x] (aj (match l.findIdx? (· ==x)with|some k=>(k:Int)|none=> -1)) []:=by
 refine bL bf mixed Tryz.func124 ?_;refine⟨Nat,λk=>⟨[(0,.d<|.slice 1<|l.map eN),(1,aj x),(7,aj ((l.map eN).length:Int)),(8,aj k)],[]⟩,λk=>k<=l.length/\ ∀j y,j<k->l[j]? =some y->(y==x)=false,λk=>l.length-k,
  ⟨0,⟨by omega,λj y h=>by omega⟩,aI.keep⟩,λk ⟨K,D⟩=>M ?_⟩
 refine aD ?_ ?_<;>intro h1
 .have G:k<l.length:=by simp at h1;omega
  obtain⟨y,I⟩:∃s,l[k]? =some s:=⟨_,ao G⟩
  refine⟨aB k,eN y,aL I,M ?_⟩
  (refine aD ?_ ?_<;>intro h)
  .refine ak rfl ?_;have:l.findIdx? (· ==x)=some k:=by
    rw[List.findIdx?_eq_some_iff_getElem];refine⟨G,?_,λj H=>?_⟩
    .obtain⟨_,e⟩:=aA.1 I;rw[e];simp at h ⊢;exact h.symm
    .have:=D j l[j] H (ao<|by omega);simpa using this
   rw[this];rfl
  .refine⟨k+1,⟨G,λj z H J=>?_⟩,by(show l.length-(k+1)<l.length-k;omega),aI.keep⟩;rcases Nat.lt_or_eq_of_le (Nat.le_of_lt_succ H)with h2|rfl
   .exact D j z h2 J
   .rw[I]at J;cases J;simp at h ⊢;exact λe=>h e.symm
 .obtain rfl:k=l.length:=by simp at h1;omega
  refine ak rfl ?_;have:l.findIdx? (· ==x)=none:=by
   rw[List.findIdx?_eq_none_iff];intro y I;obtain⟨j,H⟩:=cO I;exact D j y (aA.1 H).1 H
  rw[this];rfl
def lh(l:List Int)(x:Int)(G:l.length<=100000):NQ.Fn cx 71 [.slice 1<|l.map eN,.int .i64 x] (.d<|.bool<|l.contains x) []:=by
 refine bL bf mixed Tryz.func71 ?_
 (refine⟨_,_,Xd l x G,M ?_⟩)
 refine ak rfl ?_;show AV.d (D.bool (decide ((match l.findIdx? (· ==x)with|some k=>(k:Int)|none=> -1)>=0)))=_
 congr 2
 cases h:l.findIdx? (· ==x)with
 |some k =>
  obtain⟨h1,j,_⟩:=List.findIdx?_eq_some_iff_getElem.1 h;have:l.contains x=true:=by
   rw[iJ];have e:l[k]=x:=by simpa using j
   exact e ▸ List.getElem_mem h1
  rw[this,decide_eq_true];exact aB k
 |none =>
  have:l.contains x=false:=by
   rw[<- Bool.not_eq_true,iJ];intro H;have:=List.findIdx?_eq_none_iff.1 h x H;simp at this
  rw[this];rfl
structure Ans where
 kind:Int
 af:List Signed
 cut:Bs
 deriving DecidableEq
def jr(a:Ans):List D:=[.int .i64 a.kind,.slice 5<|a.af.map an,.str a.cut]
def dw(l:List Signed):List Int->List Int->List Signed
 |_,[]=>[]
 |j,p::t=>if (decide (p<0)||j.contains p)=true then dw l (j++[p]) t else(l[p.toNat]?).getD mG::dw l (j++[p]) t
def RI(l:List Int)(k:Nat):((l.map eN).drop ((0:Nat):Int).toNat).take (((k:Nat):Int).toNat-((0:Nat):Int).toNat)=(l.take k).map eN:=by
 simp[List.map_take]
def kB(v:View)(kind:Int)(j:List Int)(Z:j.length<=1000)(hp:∀p∈j,p<v.af.length)(X:∀s∈v.af,Small s) :
 FnB cx 158 (dW v) [.int .i64 kind,.slice 1<|j.map eN] (.agg<|(jr ⟨kind,dw v.af [] j,[]⟩).map .d) (dW v):=by
 refine iw (λ_=>[]) bf mixed Tryz.func158 ?_;conv=>whnf
 refine ⟨Nat × List Signed, fun x => ⟨[(0, .ptr 100000 0), (2, .d<|.slice 1<|j.map eN), (6, .ptr 6 0), (7, .ptr 7 0), (13, .d<|.slice 1<|j.map eN), (14, aj ((j.map eN).length : Int)), (15, aj x.1)],
     [(100000,.box<|(dW v).map .d),(6,.box [aj 0,.nil 5,.d<|.str []]),(7,.box [aj kind,.own 200,.d<|.str []]),(200,.row 75 5<|x.2.map an)]⟩,
  λx=>x.1<=j.length/\x.2.length<=x.1/\x.2++dw v.af (j.take x.1) (j.drop x.1)=dw v.af [] j,λx=>j.length-x.1,
  ⟨(0,[]),⟨by omega,by simp,by simp⟩,(aI.jy 7 1 200 5 [aj kind,.nil 5,.d<|.str []] 75 5 rfl rfl rfl<|by decide).trans<|aI.keep⟩,?_⟩
 rintro⟨k,acc⟩ ⟨V,W,G⟩;simp only at V W G;conv=>whnf
 refine aD ?_ ?_<;>intro h1
 .have H:k<j.length:=by simp at h1;omega
  obtain⟨p,D⟩:∃p,j[k]? =some p:=⟨_,ao H⟩
  rw[drop_cons D,dw, <- cj D]at G;refine⟨aB k,eN p,aL D,M ?_⟩
  have skip:(decide (p<0)||(j.take k).contains p)=true-> ∀st,aI cx st ⟨[(0,.ptr 100000 0),(2,.d<|.slice 1<|j.map eN),(6,.ptr 6 0),(7,.ptr 7 0),(13,.d<|.slice 1<|j.map eN),(14,aj ((j.map eN).length:Int)),(15,aj ((k+1:Nat):Int))],
   [(100000,.box<|(dW v).map .d),(6,.box [aj 0,.nil 5,.d<|.str []]),(7,.box [aj kind,.own 200,.d<|.str []]),(200,.row 75 5<|acc.map an)]⟩ ->
   ∃y:Nat×List Signed,(y.1<=j.length/\y.2.length<=y.1/\y.2++dw v.af (j.take y.1) (j.drop y.1)=dw v.af [] j)/\j.length-y.1<j.length-k/\aI cx st ⟨[(0,.ptr 100000 0),(2,.d<|.slice 1<|j.map eN),(6,.ptr 6 0),(7,.ptr 7 0),(13,.d<|.slice 1<|j.map eN),(14,aj ((j.map eN).length:Int)),(15,aj y.1)],
   [(100000,.box<|(dW v).map .d),(6,.box [aj 0,.nil 5,.d<|.str []]),(7,.box [aj kind,.own 200,.d<|.str []]),(200,.row 75 5<|y.2.map an)]⟩:=λU st Y=>by
   rw[if_pos U]at G;exact⟨(k+1,acc),⟨H,by(show acc.length<=k+1;omega),G⟩,by(show j.length-(k+1)<j.length-k;omega),Y⟩
  (refine aD ?_ ?_<;>intro h)
  .exact skip (by rw[h];rfl) _<|aI.keep
  have J:=h;refine⟨by omega,by omega,by(rw[au];omega),M ?_⟩
  rw[RI]
  (refine⟨_,_,lh (j.take k) p<|by(rw[List.length_take];omega),M ?_⟩)
  (refine aD ?_ ?_<;>intro h)
  .exact skip (by rw[h,Ao]) _<|aI.keep
  have N:0<=p:=by simp at J;omega
  have T:=hp p<|aw D;obtain⟨s,I⟩:∃s,v.af[p.toNat]? =some s:=⟨_,ao<|by omega⟩
  have K:=X s<|aw I;rw[if_neg<|by rw[J,h];simp,I]at G;refine⟨N,an s,by(rw[bc,I];rfl),M ?_⟩
  (refine⟨_,_,ni _<|by simpa using K.1,M ?_⟩)
  (refine⟨_,_,tQ _<|by simpa using K.2,M ?_⟩)
  refine⟨by(show(acc.map an).length+1<=_;rw[au];omega),by(show((acc.map an).length+1)*80<=_;rw[au];omega),M ?_⟩
  refine⟨(k+1,acc++[s]),⟨H,by(simp;omega),by(rw[<- G];simp)⟩,by(show j.length-(k+1)<j.length-k;omega),aI.keep ⟨ae,ae,ae,ae,ae,ae,⟨bj<|by omega,rfl⟩,trivial⟩ ⟨ae,ae,ae,⟨by(show some (Blk.row _ _<|_++_)=some (Blk.row _ _ _);rw[List.map_append];rfl),rfl⟩,trivial⟩⟩
 .obtain rfl:k=j.length:=by simp at h1;omega
  rw[List.drop_length,dw,List.append_nil]at G;refine⟨[200],_,_,rfl,?_,rfl,rfl⟩;rw[<- G];rfl
def Of(z:ax)(J:aW z=true):NQ.Fn cx 39 [.agg<|aV z] (aj<|gp z) []:=by
 have D:=bt J;have I:=D.few;refine bL bf mixed Tryz.func39 ?_;obtain⟨k,s,K,j,hp⟩:=wZ (rf.1 J).start;have G:=ab1 z ⟨z.ag,4⟩ (by omega);rw[K]at G;obtain⟨d,H⟩:=vi<|D.set s<|aw j;have e:gp z=d.n:=by
  unfold gp;rw[SR D.rising.pw j hp,j];simp only[H]
 (refine bJ<|M ?_)
 (refine⟨_,_,G,M ?_⟩)
 refine⟨aB k,an s,aL j,M ?_⟩
 refine⟨by decide,aS d,by(show(s.set.data.map aS)[(0:Int).toNat]? =_;simp[H]),M ?_⟩
 exact ak rfl (by rw[e];rfl)
