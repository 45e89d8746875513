/-
  One text.
-/
import Derived.Test.YtjojkakjmoefaaaGreatDoorMQt
import Derived.ChangeOld
import Derived.ChangeAnyMap
import Derived.ChangeArms
import Derived.OpenShut
set_option linter.all false

namespace NQ
open Go Go.RowKit
inductive T where
 |int (k:IntKind)|bool|str|slice (es:List T)
inductive Fit:T->D->Prop
 |int (k:IntKind) (n:Int) (h:(Lit.int k n).wf=true):Fit (.int k) (.int k n)
 |bool (b:Bool):Fit .bool (.bool b)
 |str (s:List UInt8) (h:s.length<=maxLen):Fit .str (.str s)
 |slice (es:List T) (rows:List (List D)) (hm:rows.length<=maxLen) (hl:∀r∈rows,r.length=es.length) (h:∀r∈rows,∀(j:Nat) e d,es[j]? =some e->r[j]? =some d->Fit e d):Fit (.slice es) (.slice es.length rows)
def Fits(es:List T)(ds:List D):Prop:=ds.length=es.length/\ ∀(j:Nat) e d,es[j]? =some e->ds[j]? =some d->Fit e d
def Fit.one{e:T}{d:D}(h:Fit e d):d.one=true:=by cases h<;>rfl
def Fits.one{es:List T}{ds:List D}(h:Fits es ds):∀d∈ds,d.one=true:=λd G=>by
 obtain⟨j,H,rfl⟩:=List.getElem_of_mem G;exact(h.2 j (es[j]'(by rw[<- h.1];exact H)) _ (ao _)<|ao _).one
def Fits.append{a b:List T}{x y:List D}(h:Fits a x)(k:Fits b y):Fits (a++b)<|x++y:=by
 refine⟨by simp[h.1,k.1],λj e d H G=>?_⟩;by_cases I:j<a.length
 .rw[dm I]at H;rw[dm<|by rw[h.1];exact I]at G;exact h.2 j e d H G
 .rw[cL<|by omega]at H;rw[cL<|by rw[h.1];omega,h.1]at G;exact k.2 _ e d H G
def Fits.cons{e:T}{es:List T}{ds:List D}(h:Fits (e::es) ds):∃d t,ds=d::t/\Fit e d/\Fits es t:=by
 cases ds with
 |nil=>have:=h.1;simp at this
 |cons d t=>exact⟨d,t,rfl,h.2 0 e d rfl rfl,by have:=h.1;simpa using this,λj H G J I=>h.2 (j+1) H G J I⟩
def Fits.nil{ds:List D}(h:Fits [] ds):ds=[]:=by have:=h.1;simpa using this
def zS(g:TypeId->Option (List T)):Nat->List (Nat×TypeId)->Option (List T)
 |_,[]=>some []
 |o,(off,t)::r=>(match Nat.beq off o,g t with
  |true,some es=>(match zS g (o+es.length) r with|some j=>some<|es++j|none=>none)
  |_,_=>none)
def sized(n:Nat)(es:Option<|List T):Option<|List T:=match es with|some l=>(match Nat.beq l.length n with|true=>some l|false=>none)|none=>none
def shape(ty:TypeId->Option TI):Nat->TypeId->Option (List T)
 |0,_=>none
 |f+1,t=>(match ty t with
  |some j=>sized j.size (match j.kind with
   | .int k=>some [.int k]
   | .bool=>some [.bool]
   | .str=>some [.str]
   | .slice e=>(match shape ty f e with|some (x::es)=>some [.slice<|x::es]|_=>none)
   | .struct D=>zS (shape ty f) 0 D
   | .array n e=>(match shape ty f e with|some es=>some (List.replicate n es).flatten|none=>none)
   |_=>none)
  |none=>none)
def EA{n:Nat}{o:Option<|List T}{es:List T}(h:sized n o=some es):o=some es/\es.length=n:=by
 unfold sized at h;split at h
 .split at h
  .rename_i j;cases h;exact⟨rfl,bg j⟩
  .cases h
 .cases h
mutual
def lits{H:Type}:DataW H->Option (List D)
 | .lit (.int k n)=>some [.int k n]
 | .lit (.bool b)=>some [.bool b]
 | .lit (.string s)=>some [.str s]
 | .agg j=>pL j
 |_=>none
def pL{H:Type}:List (DataW H)->Option (List D)
 |[]=>some []
 |d::ds=>(match lits d,pL ds with|some a,some b=>some<|a++b|_,_=>none)
end
def Bl{α:Type}{P:Nat->α->Prop}:∀(n:Nat),(∀i,i<n-> ∃r,P i r)-> ∃rows:List α,rows.length=n/\ ∀i r,rows[i]? =some r->P i r
 |0,_=>⟨[],rfl,λi r h=>by simp at h⟩
 |n+1,h=>by
  obtain⟨rows,h1,D⟩:=Bl n λi G=>h i (by omega)
  obtain⟨r,H⟩:=h n (by omega);refine⟨rows++[r],by simp[h1],λi x j=>?_⟩;by_cases G:i<n
  .rw[dm<|by omega]at j;exact D i x j
  .rw[cL<|by omega]at j;have:i-rows.length=0:=by
    by_cases h0:i-rows.length=0
    .exact h0
    .rw[List.getElem?_eq_none<|by simp;omega]at j;cases j
   rw[this]at j;simp at j;subst j;rw[show i=n by omega];exact H
def mapM_at{α β:Type}{f:α->Option β}:∀{l:List α} {ys:List β},l.mapM f=some ys->ys.length=l.length/\ ∀(i:Nat) x,l[i]? =some x-> ∃y,f x=some y/\ys[i]? =some y
 |[],ys,h=>by simp at h;subst h;exact⟨rfl,λi x j=>by simp at j⟩
 |a::l,ys,h=>by
  simp only[List.mapM_cons,Option.bind_eq_bind,Option.bind_eq_some_iff,Option.pure_def,Option.some.injEq]at h;obtain⟨y,G,I,H,rfl⟩:=h;obtain⟨h1,D⟩:=mapM_at H;refine⟨by simp[h1],λi x j=>?_⟩;cases i with
  |zero=>simp at j;subst j;exact⟨y,G,rfl⟩
  |succ i=>simpa using D i x (by simpa using j)
section
variable {H:Type} {enc:TypeId×Value->H} {cx:Cx} {w:World} {sp:Nat->Bool} {held:Bool}
def Read(w:World)(es:List T)(cs:List Value)(d:DataW H):Prop :=
 ∃ds,Fits es ds/\cs.length=ds.length/\(∀(j:Nat) x,ds[j]? =some x-> ∃u,cs[j]? =some u/\Rep w (λ_=>False) x u)/\ ∀l,lits d=some l->l=ds
def Read.single{w:World}{e:T}{x:D}{u:Value}{d:DataW H}(K:Fit e x)(U:Rep w (λ_=>False) x u)(N:∀l,lits d=some l->l=[x]):Read w [e] [u] d :=
 ⟨[x], ⟨rfl, fun j W V G J => by
     rcases j with _|j
     .simp at G J;subst G;subst J;exact K
     .simp at G⟩,rfl,λj y I=>by
     rcases j with _|j
     .simp at I;subst I;exact⟨u,rfl,U⟩
     .simp at I,N⟩
def BP{g:TypeId->Option (List T)}{rd:TypeId->List Value->Option (DataW H×List MemPlace)}
 (U:∀t es cs x,g t=some es->rd t cs=some x->Read w es cs x.1) (cs:List Value):∀(l:List Field) (o:Nat) (es:List T) (xs:List<|DataW H×List MemPlace),
 zS g o (l.map λf=>(f.offset,f.type))=some es->xs.length=l.length->(∀(i:Nat) f,l[i]? =some f->rd f.type ((cs.drop f.offset).take<|cx.P.cellsOf f.type)=xs[i]?) ->
 ∃ds,Fits es ds/\(∀(j:Nat) x,ds[j]? =some x-> ∃u,cs[o+j]? =some u/\Rep w (λ_=>False) x u)/\ ∀l,pL (xs.map (·.1))=some l->l=ds
 |[],o,es,[],G,_,N=>by
  simp[zS]at G;subst G;exact⟨[],⟨rfl,λj e d he=>by simp at he⟩,λj x K=>by simp at K,λl D=>by simp[pL]at D;exact D⟩
 |[],o,es,_::_,G,D,N=>by simp at D
 |_::_,o,es,[],G,D,N=>by simp at D
 |f::l,o,es,y::zs,G,D,N=>by
  simp only[List.map_cons,zS]at G;split at G
  .rename_i a hb hg;split at G
   .rename_i fs W;cases G;have ho:=bg hb;have hy:=N 0 f rfl;obtain⟨I,Y,a2,a3,a4⟩:=U _ _ _ _ hg hy;obtain⟨V,b1,b2,b3⟩:=BP U cs l (o+a.length) fs zs W (by simpa using D) λi f hf=>N (i+1) f hf
    have Z:I.length=a.length:=Y.1;refine⟨I++V,Y.append b1,λj x K=>?_,λl D=>?_⟩
    .by_cases hj:j<I.length
     .rw[dm hj]at K;obtain⟨u,J,X⟩:=a3 j x K;rw[List.getElem?_take]at J;split at J
      .rw[List.getElem?_drop,ho]at J;exact⟨u,J,X⟩
      .cases J
     .rw[cL<|by omega]at K;obtain⟨u,J,X⟩:=b2 _ x K;refine⟨u,?_,X⟩;rw[<- J];congr 1;omega
    .simp only[List.map_cons,pL]at D;split at D
     .rename_i p q hp hq;cases D;rw[a4 p hp,b3 q hq]
     .cases D
   .cases G
  .cases G
def ER{rd:List Value->Option (DataW H×List MemPlace)}{es:List T}(N:∀cs x,rd cs=some x->Read w es cs x.1)(cs:List Value):∀(n k:Nat) (xs:List<|DataW H×List MemPlace),xs.length=n ->
 (∀i,i<n->rd ((cs.drop<|(k+i)*es.length).take es.length)=xs[i]?) ->
 ∃ds,Fits (List.replicate n es).flatten ds/\(∀(j:Nat) x,ds[j]? =some x-> ∃u,cs[k*es.length+j]? =some u/\Rep w (λ_=>False) x u)/\ ∀l,pL (xs.map (·.1))=some l->l=ds
 |0,k,[],_,K=>⟨[],⟨rfl,λj e d he=>by simp at he⟩,λj x J=>by simp at J,λl D=>by simp[pL]at D;exact D⟩
 |0,k,_::_,D,K=>by simp at D
 |n+1,k,[],D,K=>by simp at D
 |n+1,k,y::zs,D,K=>by
  have hy:=K 0 (by omega);obtain⟨G,W,a2,Y,Z⟩:=N _ _ hy;obtain⟨U,b1,b2,b3⟩:=ER N cs n (k+1) zs (by simpa using D) λi hi=>by rw[show k+1+i=k+(i+1) by omega];exact K (i+1) (by omega)
  have X:G.length=es.length:=W.1;refine⟨G++U,by rw[List.replicate_succ,List.flatten_cons];exact W.append b1,λj x J=>?_,λl D=>?_⟩
  .by_cases hj:j<G.length
   .rw[dm hj]at J;obtain⟨u,I,V⟩:=Y j x J;rw[List.getElem?_take]at I;split at I
    .rw[List.getElem?_drop]at I;exact⟨u,I,V⟩
    .cases I
   .rw[cL<|by omega]at J;obtain⟨u,I,V⟩:=b2 _ x J;refine⟨u,?_,V⟩;rw[<- I];congr 1;rw[Nat.add_mul];omega
  .simp only[List.map_cons,pL]at D;split at D
   .rename_i p q hp hq;cases D;rw[Z p hp,b3 q hq]
   .cases D
def BL(I:bC cx){f:Nat}{t:TypeId}{es:List T}(h:shape cx.ty f t=some es):cx.P.cellsOf t=es.length:=by
 cases f with
 |zero=>simp[shape]at h
 |succ f =>
  simp only[shape]at h;split at h
  .rename_i N j;obtain⟨_,H⟩:=EA h;obtain⟨G,D,z,J,_,_,K,_⟩:=I t N j;unfold Program.cellsOf;rw[J,H];exact K
  .cases h
def Qq{a:Addr}{n:Nat}{cs:List Value}(h:w.cells? 0 a n=some cs):cs.length=n/\ ∀j,j<n-> ∃u,cs[j]? =some u/\w.cell? (a.add j)=some u:=by
 unfold World.cells? at h;rw[if_pos<|Nat.zero_le _]at h;obtain⟨h1,D⟩:=mapM_at h;refine⟨by simpa using h1,λj G=>?_⟩;obtain⟨y,H,I⟩:=D j j (by simp[G]);exact⟨y,I,H⟩
def pO(b o n:Nat):(⟨b,o,none⟩:Addr).add n=⟨b,o+n,none⟩:=by
 unfold Addr.add;split<;>simp_all
def vr(hT:bC cx):∀(K f:Nat) (t:TypeId) (cs:List Value) (x:DataW H×List MemPlace) (es:List T),DataW.trod enc cx.P w 0 sp held K t cs=some x->shape cx.ty f t=some es->Read w es cs x.1
 |0,_,_,_,_,_,h,_=>by simp[DataW.trod]at h
 |K+1,0,_,_,_,_,_,N=>by simp[shape]at N
 |K+1,f+1,t,cs,x,es,h,N=>by
  have ih:=vr hT K f;simp only[shape]at N;split at N
  case h_2=>cases N
  rename_i ti hM;obtain⟨N,hlen⟩:=EA N;obtain⟨info,G,z,k1,k2,V,k4,_⟩:=hT t ti hM;have X:cx.P.cellsOf t=es.length:=by unfold Program.cellsOf;rw[k1,hlen];exact k4
  split at N
  .rename_i k Y;cases N;rw[Y]at V;obtain rfl:G= .int k:=by cases G<;>simp[kindOf]at V;rw[V]
   obtain⟨n,rfl,rfl,hw⟩:=DataW.trod_int k2 h;exact Read.single (.int _ _ hw) (.int _ _) λl J=>by simp[lits]at J;exact J.symm
  .rename_i Y;cases N;rw[Y]at V;obtain rfl:G= .bool:=by cases G<;>simp[kindOf]at V;rfl
   obtain⟨b,rfl,rfl⟩:=DataW.trod_bool k2 h;exact Read.single (.bool _) (.bool _) λl J=>by simp[lits]at J;exact J.symm
  .rename_i Y;cases N;rw[Y]at V;obtain rfl:G= .string:=by cases G<;>simp[kindOf]at V;rfl
   obtain⟨s,rfl,rfl,hz⟩:=DataW.trod_string k2 h;exact Read.single (.str _<|by show s.data.toList.length<=maxLen;rw[Array.length_toList];exact hz) (.str _ _ rfl) λl J=>by simp[lits]at J;exact J.symm
  .rename_i e Y;split at N
   .rename_i y ys he;cases N;rw[Y]at V;obtain rfl:G= .slice e:=by cases G<;>simp[kindOf]at V;rw[V]
    have hF:=BL hT he;rcases DataW.trod_slice k2 h with ⟨rfl,rfl⟩|⟨a,len,cap,elems,rest,n,hn,rfl,rfl,hb,J,hm,hN,ha,_⟩
    .exact Read.single (.slice _ [] (Nat.zero_le _) (λr U=>by cases U) λr U=>by cases U) (.empty _ _ _) λl J=>by simp[lits]at J
    .cases hn;rw[hF]at ha;have hr:∀i,i<len-> ∃r:List D,Fits (y::ys) r/\ ∀(j:Nat) d,r[j]? =some d-> ∃u,w.cell? ((a.add<|i*(y::ys).length).add j)=some u/\Rep w (λ_=>False) d u:=λi W=>by
      have hg:=ha i W;rw[ao<|by omega,Option.bind_eq_some_iff]at hg;obtain⟨hD,hc,ht⟩:=hg;obtain⟨r,r1,r2,r3,_⟩:=ih e hD _ _ ht he;obtain⟨q1,q2⟩:=Qq hc;refine⟨r,r1,λj d hj=>?_⟩;obtain⟨u,hu,U⟩:=r3 j d hj;obtain⟨u',hC,hE⟩:=q2 j (by rw[<- q1];exact(aA.1 hu).1);rw[hu]at hC;cases hC;exact⟨u,hE,U⟩
     obtain⟨rows,hA,I⟩:=Bl len hr;have hd:Fit (.slice<|y::ys)<|.slice (y::ys).length rows:=by
      refine .slice _ _ (by omega) (λr U=>?_) λr U j e' d' hJ hG =>?_
      .obtain⟨i,W⟩:=cO U;exact(I i r W).1.1
      .obtain⟨i,W⟩:=cO U;exact(I i r W).1.2 j e' d' hJ hG
     refine Read.single hd ?_ λl J=>by simp[lits]at J
     by_cases h0:len=0
     .subst h0;obtain rfl:rows=[]:=by simpa using hA
      exact .empty _ _ _
     .obtain⟨r0,hv⟩:∃r,rows[0]? =some r:=⟨_,ao<|by omega⟩
      obtain⟨d0,hI⟩:∃d,r0[0]? =some d:=⟨_,ao<|by have:=(I 0 r0 hv).1.1;simp at this;omega⟩
      obtain⟨u0,Z,_⟩:=(I 0 r0 hv).2 0 d0 hI;obtain⟨B,off,spot⟩:=a;have hL:spot=none:=by simpa [Addr.add] using World.cell?_spot Z
      subst hL;rw[pO,pO]at Z;have hB:B<w.heap.size:=by
       unfold World.cell? at Z;split at Z
       .rename_i hh;exact(bP.1 hh).1
       .cases Z
      refine .slice _ rows B off len cap (λi j=>(w.cell? ⟨B,off+i*(y::ys).length+j,none⟩).getD Go.undef) hA (λh=>h) hB J (λr U=>?_) (λi r j d W hj=>?_) λi r j d W hj=>?_
      .obtain⟨i,W⟩:=cO U;exact⟨(I i r W).1.1,(I i r W).1.one⟩
      .obtain⟨u,hu,U⟩:=(I i r W).2 j d hj;rw[pO,pO]at hu;rw[hu];rfl
      .obtain⟨u,hu,U⟩:=(I i r W).2 j d hj;rw[pO,pO]at hu;rw[hu];exact U
   .cases N
  .rename_i fs Y;rw[Y]at V;cases G<;>simp[kindOf]at V;rename_i fa;subst V;obtain⟨xs,n,hn,rfl,J,hs,hf⟩:=DataW.trod_struct k2 h;cases hn;obtain⟨ds,d1,d2,d3⟩:=BP (cx:=cx) (g:=shape cx.ty f) (rd:=DataW.trod enc cx.P w 0 sp held K) (λt es cs x hg U=>ih t cs x es U hg) cs fa.toList 0 es xs N (by simpa using hs) λi f hK =>hf i f (by simpa using hK)
   exact⟨ds,d1,by rw[J,X,d1.1],λj x hx=>by simpa using d2 j x hx,λl J=>d3 l<|by simpa [lits] using J⟩
  .rename_i n e Y;split at N
   .rename_i ys he;cases N;rw[Y]at V;obtain rfl:G= .array n e:=by cases G<;>simp[kindOf]at V;rw[V.1,V.2]
    obtain⟨xs,m,hm,rfl,J,hs,hf⟩:=DataW.trod_array k2 h;cases hm;rw[BL hT he]at hf;obtain⟨ds,d1,d2,d3⟩:=ER (rd:=DataW.trod enc cx.P w 0 sp held K e) (es:=ys) (λcs x U=>ih e cs x ys U he) cs n 0 xs hs λi W=>by simpa using hf i W
    exact⟨ds,d1,by rw[J,X,d1.1],λj x hx=>by simpa using d2 j x hx,λl J=>d3 l<|by simpa [lits] using J⟩
   .cases N
  .cases N
end

