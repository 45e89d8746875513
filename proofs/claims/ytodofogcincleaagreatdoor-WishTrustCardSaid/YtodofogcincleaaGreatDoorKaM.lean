/-
  One text.
-/
import Derived.Test.YtodofogcincleaaGreatDoorMQt
import Derived.ChangeOld
import Derived.ChangeAnyMap
import Derived.ChangeArms
import Derived.OpenShut
set_option linter.all false
namespace NQ
open Go Go.RowKit
inductive T where
 |int (k:IntKind)|bool|str|slice (es:List T)
inductive Fit:T->D->Prop
 |int (k:IntKind) (n:Int) (h:(Lit.int k n).wf=true):Fit (.int k) (.int k n)
 |bool (b:Bool):Fit .bool (.bool b)
 |str (s:List UInt8) (h:s.length<=maxLen):Fit .str (.str s)
 |slice (es:List T) (rows:List (List D)) (hm:rows.length<=maxLen) (hl:∀r∈rows,r.length=es.length) (h:∀r∈rows,∀(j:Nat) e d,es[j]? =some e->r[j]? =some d->Fit e d):Fit (.slice es) (.slice es.length rows)
def Fits(es:List T)(ds:List D):Prop:=ds.length=es.length/\ ∀(j:Nat) e d,es[j]? =some e->ds[j]? =some d->Fit e d
theorem Fit.one{e:T}{d:D}(h:Fit e d):d.one=true:=by cases h <;> rfl
theorem Fits.one{es:List T}{ds:List D}(h:Fits es ds):∀d∈ds,d.one=true:=λd hd=>by
 obtain⟨j,hj,rfl⟩:=List.getElem_of_mem hd;exact(h.2 j (es[j]'(by rw[<- h.1];exact hj)) _ (au _) (au _)).one
theorem Fits.append{a b:List T}{x y:List D}(h:Fits a x)(k:Fits b y):Fits (a++b) (x++y):=by
 refine⟨by simp[h.1,k.1],λj e d he hd=>?_⟩;by_cases hj:j<a.length
 .rw[cU hj]at he;rw[cU (by rw[h.1];exact hj)]at hd;exact h.2 j e d he hd
 .rw[cL (by omega)]at he;rw[cL (by rw[h.1];omega),h.1]at hd;exact k.2 _ e d he hd
theorem Fits.cons{e:T}{es:List T}{ds:List D}(h:Fits (e::es) ds):∃d t,ds=d::t/\Fit e d/\Fits es t:=by
 cases ds with
 |nil=>have:=h.1;simp at this
 |cons d t=>exact⟨d,t,rfl,h.2 0 e d rfl rfl,by have:=h.1;simpa using this,λj e' d' he hd=>h.2 (j+1) e' d' he hd⟩
theorem Fits.nil{ds:List D}(h:Fits [] ds):ds=[]:=by have:=h.1;simpa using this
def wF(g:TypeId->Option (List T)):Nat->List (Nat×TypeId)->Option (List T)
 |_,[]=>some []
 |o,(off,t)::r=>(match Nat.beq off o,g t with
  |true,some es=>(match wF g (o+es.length) r with|some fs=>some (es++fs)|none=>none)
  |_,_=>none)
def sized(n:Nat)(es:Option (List T)):Option (List T):=match es with|some l=>(match Nat.beq l.length n with|true=>some l|false=>none)|none=>none
def shape(ty:TypeId->Option TI):Nat->TypeId->Option (List T)
 |0,_=>none
 |f+1,t=>(match ty t with
  |some ti=>sized ti.size (match ti.kind with
   | .int k=>some [.int k]
   | .bool=>some [.bool]
   | .str=>some [.str]
   | .slice e=>(match shape ty f e with|some (x::es)=>some [.slice (x::es)]|_=>none)
   | .struct fs=>wF (shape ty f) 0 fs
   | .array n e=>(match shape ty f e with|some es=>some (List.replicate n es).flatten|none=>none)
   |_=>none)
  |none=>none)
theorem Ba{n:Nat}{o:Option (List T)}{es:List T}(h:sized n o=some es):o=some es/\es.length=n:=by
 unfold sized at h;split at h
 .split at h
  .rename_i hb;cases h;exact⟨rfl,bd hb⟩
  .cases h
 .cases h
mutual
def lits{H:Type}:DataW H->Option (List D)
 | .lit (.int k n)=>some [.int k n]
 | .lit (.bool b)=>some [.bool b]
 | .lit (.string s)=>some [.str s]
 | .agg parts=>nr parts
 |_=>none
def nr{H:Type}:List (DataW H)->Option (List D)
 |[]=>some []
 |d::ds=>(match lits d,nr ds with|some a,some b=>some (a++b)|_,_=>none)
end
theorem xS{α:Type}{P:Nat->α->Prop}:∀(n:Nat),(∀i,i<n-> ∃r,P i r)-> ∃rows:List α,rows.length=n/\ ∀i r,rows[i]? =some r->P i r
 |0,_=>⟨[],rfl,λi r h=>by simp at h⟩
 |n+1,h=>by
  obtain⟨rows,h1,h2⟩:=xS n λi hi=>h i (by omega)
  obtain⟨r,hr⟩:=h n (by omega);refine⟨rows++[r],by simp[h1],λi x hx=>?_⟩;by_cases hi:i<n
  .rw[cU (by omega)]at hx;exact h2 i x hx
  .rw[cL (by omega)]at hx;have:i-rows.length=0:=by
    by_cases h0:i-rows.length=0
    .exact h0
    .rw[List.getElem?_eq_none (by simp;omega)]at hx;cases hx
   rw[this]at hx;simp at hx;subst hx;rw[show i=n by omega];exact hr
theorem mapM_at{α β:Type}{f:α->Option β}:∀{l:List α} {ys:List β},l.mapM f=some ys->ys.length=l.length/\ ∀(i:Nat) x,l[i]? =some x-> ∃y,f x=some y/\ys[i]? =some y
 |[],ys,h=>by simp at h;subst h;exact⟨rfl,λi x hx=>by simp at hx⟩
 |a::l,ys,h=>by
  simp only[List.mapM_cons,Option.bind_eq_bind,Option.bind_eq_some_iff,Option.pure_def,Option.some.injEq]at h;obtain⟨y,hy,zs,hz,rfl⟩:=h;obtain⟨h1,h2⟩:=mapM_at hz;refine⟨by simp[h1],λi x hx=>?_⟩;cases i with
  |zero=>simp at hx;subst hx;exact⟨y,hy,rfl⟩
  |succ i=>simpa using h2 i x (by simpa using hx)
section
variable {H:Type} {enc:TypeId×Value->H} {cx:Cx} {w:World} {sp:Nat->Bool} {held:Bool}
def Read(w:World)(es:List T)(cs:List Value)(d:DataW H):Prop :=
 ∃ds,Fits es ds/\cs.length=ds.length/\(∀(j:Nat) x,ds[j]? =some x-> ∃u,cs[j]? =some u/\Rep w (λ_=>False) x u)/\ ∀l,lits d=some l->l=ds
theorem Read.single{w:World}{e:T}{x:D}{u:Value}{d:DataW H}(hf:Fit e x)(hr:Rep w (λ_=>False) x u)(hl:∀l,lits d=some l->l=[x]):Read w [e] [u] d :=
 ⟨[x], ⟨rfl, fun j e' d' he hd => by
     rcases j with _|j
     .simp at he hd;subst he;subst hd;exact hf
     .simp at he⟩,rfl,λj y hy=>by
     rcases j with _|j
     .simp at hy;subst hy;exact⟨u,rfl,hr⟩
     .simp at hy,hl⟩
theorem yu{g:TypeId->Option (List T)}{rd:TypeId->List Value->Option (DataW H×List MemPlace)}
 (hD:∀t es cs x,g t=some es->rd t cs=some x->Read w es cs x.1) (cs:List Value):∀(l:List Field) (o:Nat) (es:List T) (xs:List (DataW H×List MemPlace)),
 wF g o (l.map λf=>(f.offset,f.type))=some es->xs.length=l.length->(∀(i:Nat) f,l[i]? =some f->rd f.type ((cs.drop f.offset).take (cx.P.cellsOf f.type))=xs[i]?) ->
 ∃ds,Fits es ds/\(∀(j:Nat) x,ds[j]? =some x-> ∃u,cs[o+j]? =some u/\Rep w (λ_=>False) x u)/\ ∀l,nr (xs.map (·.1))=some l->l=ds
 |[],o,es,[],hs,_,hm=>by
  simp[wF]at hs;subst hs;exact⟨[],⟨rfl,λj e d he=>by simp at he⟩,λj x hx=>by simp at hx,λl hl=>by simp[nr]at hl;exact hl⟩
 |[],o,es,_::_,hs,hl,hm=>by simp at hl
 |_::_,o,es,[],hs,hl,hm=>by simp at hl
 |f::l,o,es,y::zs,hs,hl,hm=>by
  simp only[List.map_cons,wF]at hs;split at hs
  .rename_i a hb hg;split at hs
   .rename_i fs hX;cases hs;have ho:=bd hb;have hy:=hm 0 f rfl;obtain⟨hA,a1,a2,a3,a4⟩:=hD _ _ _ _ hg hy;obtain⟨hF,b1,b2,b3⟩:=yu hD cs l (o+a.length) fs zs hX (by simpa using hl) λi f hf=>hm (i+1) f hf
    have hlen:hA.length=a.length:=a1.1;refine⟨hA++hF,a1.append b1,λj x hx=>?_,λl hl=>?_⟩
    .by_cases hj:j<hA.length
     .rw[cU hj]at hx;obtain⟨u,hu,hr⟩:=a3 j x hx;rw[List.getElem?_take]at hu;split at hu
      .rw[List.getElem?_drop,ho]at hu;exact⟨u,hu,hr⟩
      .cases hu
     .rw[cL (by omega)]at hx;obtain⟨u,hu,hr⟩:=b2 _ x hx;refine⟨u,?_,hr⟩;rw[<- hu];congr 1;omega
    .simp only[List.map_cons,nr]at hl;split at hl
     .rename_i p q hp hq;cases hl;rw[a4 p hp,b3 q hq]
     .cases hl
   .cases hs
  .cases hs
theorem Bn{rd:List Value->Option (DataW H×List MemPlace)}{es:List T}(hD:∀cs x,rd cs=some x->Read w es cs x.1)(cs:List Value):∀(n k:Nat) (xs:List (DataW H×List MemPlace)),xs.length=n ->
 (∀i,i<n->rd ((cs.drop ((k+i)*es.length)).take es.length)=xs[i]?) ->
 ∃ds,Fits (List.replicate n es).flatten ds/\(∀(j:Nat) x,ds[j]? =some x-> ∃u,cs[k*es.length+j]? =some u/\Rep w (λ_=>False) x u)/\ ∀l,nr (xs.map (·.1))=some l->l=ds
 |0,k,[],_,hm=>⟨[],⟨rfl,λj e d he=>by simp at he⟩,λj x hx=>by simp at hx,λl hl=>by simp[nr]at hl;exact hl⟩
 |0,k,_::_,hl,hm=>by simp at hl
 |n+1,k,[],hl,hm=>by simp at hl
 |n+1,k,y::zs,hl,hm=>by
  have hy:=hm 0 (by omega);obtain⟨hA,a1,a2,a3,a4⟩:=hD _ _ hy;obtain⟨hF,b1,b2,b3⟩:=Bn hD cs n (k+1) zs (by simpa using hl) λi hi=>by rw[show k+1+i=k+(i+1) by omega];exact hm (i+1) (by omega)
  have hlen:hA.length=es.length:=a1.1;refine⟨hA++hF,by rw[List.replicate_succ,List.flatten_cons];exact a1.append b1,λj x hx=>?_,λl hl=>?_⟩
  .by_cases hj:j<hA.length
   .rw[cU hj]at hx;obtain⟨u,hu,hr⟩:=a3 j x hx;rw[List.getElem?_take]at hu;split at hu
    .rw[List.getElem?_drop]at hu;exact⟨u,hu,hr⟩
    .cases hu
   .rw[cL (by omega)]at hx;obtain⟨u,hu,hr⟩:=b2 _ x hx;refine⟨u,?_,hr⟩;rw[<- hu];congr 1;rw[Nat.add_mul];omega
  .simp only[List.map_cons,nr]at hl;split at hl
   .rename_i p q hp hq;cases hl;rw[a4 p hp,b3 q hq]
   .cases hl
theorem yq(hT:bD cx){f:Nat}{t:TypeId}{es:List T}(h:shape cx.ty f t=some es):cx.P.cellsOf t=es.length:=by
 cases f with
 |zero=>simp[shape]at h
 |succ f =>
  simp only[shape]at h;split at h
  .rename_i ti hJ;obtain⟨_,h2⟩:=Ba h;obtain⟨info,desc,z,k1,_,_,k4,_⟩:=hT t ti hJ;unfold Program.cellsOf;rw[k1,h2];exact k4
  .cases h
theorem Kk{a:Addr}{n:Nat}{cs:List Value}(h:w.cells? 0 a n=some cs):cs.length=n/\ ∀j,j<n-> ∃u,cs[j]? =some u/\w.cell? (a.add j)=some u:=by
 unfold World.cells? at h;rw[if_pos (Nat.zero_le _)]at h;obtain⟨h1,h2⟩:=mapM_at h;refine⟨by simpa using h1,λj hj=>?_⟩;obtain⟨y,hy,hz⟩:=h2 j j (by simp[hj]);exact⟨y,hz,hy⟩
theorem nw(b o n:Nat):(⟨b,o,none⟩:Addr).add n=⟨b,o+n,none⟩:=by
 unfold Addr.add;split <;> simp_all
theorem rY(hT:bD cx):∀(fuel f:Nat) (t:TypeId) (cs:List Value) (x:DataW H×List MemPlace) (es:List T),DataW.trod enc cx.P w 0 sp held fuel t cs=some x->shape cx.ty f t=some es->Read w es cs x.1
 |0,_,_,_,_,_,h,_=>by simp[DataW.trod]at h
 |fuel+1,0,_,_,_,_,_,hs=>by simp[shape]at hs
 |fuel+1,f+1,t,cs,x,es,h,hs=>by
  have ih:=rY hT fuel f;simp only[shape]at hs;split at hs
  case h_2=>cases hs
  rename_i ti hJ;obtain⟨hs,hlen⟩:=Ba hs;obtain⟨info,desc,z,k1,k2,k3,k4,_⟩:=hT t ti hJ;have hv:cx.P.cellsOf t=es.length:=by unfold Program.cellsOf;rw[k1,hlen];exact k4
  split at hs
  .rename_i k hk;cases hs;rw[hk]at k3;obtain rfl:desc= .int k:=by cases desc <;> simp[kindOf]at k3;rw[k3]
   obtain⟨n,rfl,rfl,hw⟩:=DataW.trod_int k2 h;exact Read.single (.int _ _ hw) (.int _ _) λl hl=>by simp[lits]at hl;exact hl.symm
  .rename_i hk;cases hs;rw[hk]at k3;obtain rfl:desc= .bool:=by cases desc <;> simp[kindOf]at k3;rfl
   obtain⟨b,rfl,rfl⟩:=DataW.trod_bool k2 h;exact Read.single (.bool _) (.bool _) λl hl=>by simp[lits]at hl;exact hl.symm
  .rename_i hk;cases hs;rw[hk]at k3;obtain rfl:desc= .string:=by cases desc <;> simp[kindOf]at k3;rfl
   obtain⟨s,rfl,rfl,hz⟩:=DataW.trod_string k2 h;exact Read.single (.str _ (by show s.data.toList.length<=maxLen;rw[Array.length_toList];exact hz)) (.str _ _ rfl) λl hl=>by simp[lits]at hl;exact hl.symm
  .rename_i e hk;split at hs
   .rename_i y ys he;cases hs;rw[hk]at k3;obtain rfl:desc= .slice e:=by cases desc <;> simp[kindOf]at k3;rw[k3]
    have hR:=yq hT he;rcases DataW.trod_slice k2 h with ⟨rfl,rfl⟩|⟨a,len,cap,elems,rest,n,hn,rfl,rfl,hb,hl,hm,hZ,hC,_⟩
    .exact Read.single (.slice _ [] (Nat.zero_le _) (λr hr=>by cases hr) λr hr=>by cases hr) (.empty _ _ _) λl hl=>by simp[lits]at hl
    .cases hn;rw[hR]at hC;have hI:∀i,i<len-> ∃r:List D,Fits (y::ys) r/\ ∀(j:Nat) d,r[j]? =some d-> ∃u,w.cell? ((a.add (i*(y::ys).length)).add j)=some u/\Rep w (λ_=>False) d u:=λi hi=>by
      have hg:=hC i hi;rw[au (by omega),Option.bind_eq_some_iff]at hg;obtain⟨hP,hc,ht⟩:=hg;obtain⟨r,r1,r2,r3,_⟩:=ih e hP _ _ ht he;obtain⟨q1,q2⟩:=Kk hc;refine⟨r,r1,λj d hj=>?_⟩;obtain⟨u,hu,hr⟩:=r3 j d hj;obtain⟨u',hN,hQ⟩:=q2 j (by rw[<- q1];exact(aB.1 hu).1);rw[hu]at hN;cases hN;exact⟨u,hQ,hr⟩
     obtain⟨rows,hM,ha⟩:=xS len hI;have hG:Fit (.slice (y::ys)) (.slice (y::ys).length rows):=by
      refine .slice _ _ (by omega) (λr hr=>?_) λr hr j e' d' hV hS =>?_
      .obtain⟨i,hi⟩:=cQ hr;exact(ha i r hi).1.1
      .obtain⟨i,hi⟩:=cQ hr;exact(ha i r hi).1.2 j e' d' hV hS
     refine Read.single hG ?_ λl hl=>by simp[lits]at hl
     by_cases h0:len=0
     .subst h0;obtain rfl:rows=[]:=by simpa using hM
      exact .empty _ _ _
     .obtain⟨r0,hL⟩:∃r,rows[0]? =some r:=⟨_,au (by omega)⟩
      obtain⟨d0,hU⟩:∃d,r0[0]? =some d:=⟨_,au (by have:=(ha 0 r0 hL).1.1;simp at this;omega)⟩
      obtain⟨u0,hE,_⟩:=(ha 0 r0 hL).2 0 d0 hU;obtain⟨B,off,spot⟩:=a;have hY:spot=none:=by simpa [Addr.add] using World.cell?_spot hE
      subst hY;rw[nw,nw]at hE;have hB:B<w.heap.size:=by
       unfold World.cell? at hE;split at hE
       .rename_i hh;exact(bI.1 hh).1
       .cases hE
      refine .slice _ rows B off len cap (λi j=>(w.cell? ⟨B,off+i*(y::ys).length+j,none⟩).getD Go.undef) hM (λh=>h) hB hl (λr hr=>?_) (λi r j d hi hj=>?_) λi r j d hi hj=>?_
      .obtain⟨i,hi⟩:=cQ hr;exact⟨(ha i r hi).1.1,(ha i r hi).1.one⟩
      .obtain⟨u,hu,hr⟩:=(ha i r hi).2 j d hj;rw[nw,nw]at hu;rw[hu];rfl
      .obtain⟨u,hu,hr⟩:=(ha i r hi).2 j d hj;rw[nw,nw]at hu;rw[hu];exact hr
   .cases hs
  .rename_i fs hk;rw[hk]at k3;cases desc <;> simp[kindOf]at k3;rename_i fa;subst k3;obtain⟨xs,n,hn,rfl,hl,hK,hf⟩:=DataW.trod_struct k2 h;cases hn;obtain⟨ds,d1,d2,d3⟩:=yu (cx:=cx) (g:=shape cx.ty f) (rd:=DataW.trod enc cx.P w 0 sp held fuel) (λt es cs x hg hr=>ih t cs x es hr hg) cs fa.toList 0 es xs hs (by simpa using hK) λi f hW =>hf i f (by simpa using hW)
   exact⟨ds,d1,by rw[hl,hv,d1.1],λj x hx=>by simpa using d2 j x hx,λl hl=>d3 l (by simpa [lits] using hl)⟩
  .rename_i n e hk;split at hs
   .rename_i ys he;cases hs;rw[hk]at k3;obtain rfl:desc= .array n e:=by cases desc <;> simp[kindOf]at k3;rw[k3.1,k3.2]
    obtain⟨xs,m,hm,rfl,hl,hK,hf⟩:=DataW.trod_array k2 h;cases hm;rw[yq hT he]at hf;obtain⟨ds,d1,d2,d3⟩:=Bn (rd:=DataW.trod enc cx.P w 0 sp held fuel e) (es:=ys) (λcs x hr=>ih e cs x ys hr he) cs n 0 xs hK λi hi=>by simpa using hf i hi
    exact⟨ds,d1,by rw[hl,hv,d1.1],λj x hx=>by simpa using d2 j x hx,λl hl=>d3 l (by simpa [lits] using hl)⟩
   .cases hs
  .cases hs
end
end NQ
