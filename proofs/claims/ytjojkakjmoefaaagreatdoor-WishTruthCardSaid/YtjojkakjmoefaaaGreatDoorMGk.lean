/-
  Merged texts.
-/
import Derived.Test.YtjojkakjmoefaaaGreatDoorMGa
import Derived.Test.YtjojkakjmoefaaaGreatDoorQsoM
import Derived.Test.YtjojkakjmoefaaaGreatDoorSortM
set_option linter.all false
set_option maxRecDepth 100000
namespace Go.Proofs.YtjojkakjmoefaaaGreatDoor
open NQ Go.RowKit
def nh(ok:al->Bool)(j:al->al->Bool):Nat->List al->Option (Nat×al)->Option (Nat×al)
 |_,[],b=>b
 |i,p::t,b=>nh ok j (i+1) t (if ok p=true then(match b with|none=>some (i,p)|some x=>if j p x.2=true then some (i,p)else b)else b)
def iZ(ok:al->Bool)(j:al->al->Bool)(i:Nat)(p:al)(b:Option<|Nat×al):Option<|Nat×al:=if ok p=true then(match b with|none=>some (i,p)|some x=>if j p x.2=true then some (i,p)else b)else b
def tJ(j:List al)(b:Option<|Nat×al):Prop:= ∀x,b=some x->j[x.1]? =some x.2
def tJ.step{G:List al}{b:Option<|Nat×al}(h:tJ G b){ok:al->Bool}{j:al->al->Bool}{i:Nat}{p:al}(hp:G[i]? =some p):tJ G<|iZ ok j i p b:=by
 intro x D;unfold iZ at D;split at D
 .split at D
  .cases D;exact hp
  .split at D
   .cases D;exact hp
   .exact h x D
 .exact h x D
def OP{G:List al}{ok:al->Bool}{D:al->al->Bool}:∀(l:List al) (i:Nat) (b:Option<|Nat×al),(∀j,l[j]? =G[i+j]?)->tJ G b->tJ G (nh ok D i l b)
 |[],i,b,_,h=>h
 |p::t,i,b,H,h=>OP t (i+1) _ (λj=>by have:=H<|j+1;simp at this;rw[this];congr 1;omega) (h.step<|by have:=H 0;simpa using this.symm)
def yI{ok:al->Bool}{j:al->al->Bool}:∀(l:List al) (i:Nat) (b:Option<|Nat×al),nh ok j i l b=none ↔ (b=none/\ ∀p∈l,ok p=false)
 |[],i,b=>by simp[nh]
 |p::t,i,b=>by
  show nh ok j (i+1) t (iZ ok j i p b)=none ↔ _
  rw[yI t];unfold iZ;cases hp:ok p<;>cases b<;>simp[hp];intro h;split at h<;>cases h
def abC(s:Bs):Int:=((cu s).length:Int)
def Yt{s a:Bs}(D:aR s=true)(j:aR a=true):(bD s a).1=bd s a:=by unfold bD;rw[if_pos ⟨D,j⟩]
def abi(p:al):Int:=abC p.ai.ag
def Dr(p q:al):Bool:=decide<|abi q<abi p
def js(j:List al)(a:Bs):Option<|Nat×al:=nh (λp=>p.ai.ag==a) ik 0 j none
def Hv{D:List al}{a:Bs}:∀(l:List al) (i:Nat) (m:List<|Bs×Nat) (b:Option<|Nat×al),(∀j,l[j]? =D[i+j]?)->tJ D b->iy a m=b.map (·.1)->iy a (oS D i l m)=(nh (λp=>p.ai.ag==a) ik i l b).map (·.1)
 |[],i,m,b,_,_,h=>h
 |p::t,i,m,b,K,J,h=>by
  have hp:D[i]? =some p:=by have:=K 0;simpa using this.symm
  show iy a (oS D (i+1) t (if kU D m p=true then ra p.ai.ag i m else m))=(nh (λp=>p.ai.ag==a) ik (i+1) t<|iZ (λp=>p.ai.ag==a) ik i p b).map (·.1)
  refine Hv t (i+1) _ _ (λj=>by have:=K<|j+1;simp at this;rw[this];congr 1;omega) (J.step hp) ?_;by_cases G:p.ai.ag=a
  .have H :∀b,iZ (λp=>p.ai.ag==a) ik i p b=(match b with|none=>some (i,p)|some x=>if ik p x.2=true then some (i,p)else b):=λb=>by
    unfold iZ;exact if_pos (by show(p.ai.ag==a)=true;rw[G];exact beq_self_eq_true a)
   rw[H];cases b with
   |none =>
    have I:kU D m p=true:=by unfold kU;rw[G,h];rfl
    rw[if_pos I,sg,if_pos G];rfl
   |some x =>
    have N:=J x rfl;have I:kU D m p=ik p x.2:=by unfold kU;rw[G,h];simp only[Option.map_some];rw[N]
    dsimp only;rw[I];split
    .rw[sg,if_pos G];rfl
    .exact h
  .have H :iZ (λp=>p.ai.ag==a) ik i p b=b:=by unfold iZ;exact if_neg (by simpa using G)
   rw[H];split
   .rw[sg,if_neg G];exact h
   .exact h
def Vj(D:List al)(a:Bs):iy a (gA D)=(js D a).map (·.1):=Hv D 0 [] none (λj=>by rw[Nat.zero_add]) (λx G=>by cases G) rfl
def JH(D:List al)(a:Bs):tJ D<|js D a:=OP D 0 none (λj=>by rw[Nat.zero_add]) (λx G=>by cases G)
def yx{n:Nat}:∀(l j:List al),gN n j l=true->l.Pairwise (λx p=>kS p x=false)/\ ∀p∈l,j.any (kS p)=false
 |[],_,_=>⟨List.Pairwise.nil,λp hp=>by cases hp⟩
 |x::t,j,h=>by
  unfold gN at h;simp only[aK,Bool.not_eq_true',Bool.or_eq_false_iff]at h;obtain⟨h1,D⟩:=yx t _ h.2;refine⟨List.Pairwise.cons (λp hp=>?_) h1,λp hp=>?_⟩
  .have:=D p hp;rw[List.any_append]at this;simp only[Bool.or_eq_false_iff,List.any_cons,List.any_nil,vz]at this;exact this.2
  .rcases List.mem_cons.1 hp with rfl|hp
   .exact h.1.1.2
   .have:=D p hp;rw[List.any_append]at this;simp only[Bool.or_eq_false_iff]at this;exact this.1
def Ox{w:aQ}(h:cT w=true):w.ah.Pairwise (λx p=>kS p x=false):=by
 unfold cT pH at h;simp only[aK]at h;exact(yx _ _ h.1.2.1.2).1
def Av(l:List al):List Bs:=l.foldl (λout p=>if out.contains p.ai.ag=true then out else out++[p.ai.ag]) []
def EF(a:Bs)(v:D):∀m:List (Bs×D),(cy a v m).map (·.1)=if (m.map (·.1)).contains a=true then m.map (·.1)else m.map (·.1)++[a]
 |[]=>by simp[cy]
 |(b,x)::t=>by
  show(if a=b then _ else _::cy a v t).map (·.1)=_
  by_cases h:a=b
  .subst h;simp
  .rw[if_neg h];simp only[List.map_cons,List.contains_cons];rw[EF a v t];have:(a==b)=false:=by simpa using h
   rw[this,iI];split<;>simp
def VN(l:List al):(apx l).map (·.1)=Av l:=by
 have key:∀(l:List al) (m:List<|Bs×D),(l.foldl (λm p=>cy p.ai.ag (.bool true) m) m).map (·.1)=l.foldl (λout p=>if out.contains p.ai.ag=true then out else out++[p.ai.ag]) (m.map (·.1)):=λl=>by
  induction l with
  |nil=>intro m;rfl
  |cons p t j=>intro m;simp only[List.foldl_cons];rw[j,EF]
 exact key l []
def OI(l:List al):(apx l).length=(Av l).length:=by rw[<- VN,au]
def pj(w:aQ):Bool:=(w.ah.take 21).all (λp=>sr p.ai&&decide (p.ai.ag.length<=100))&&(w.ar.take 71).all (λh=>decide<|h.name.length<=100)&&decide ((w.ah.length:Int)<=20)&&decide ((w.ar.length:Int)<=70)&&decide ((w.hints.length:Int)<=20)&&decide ((w.anchor.data.length:Int)<=20)
def xx{w:aQ}(h:pj w=true):yD w/\w.ar.length<=70/\w.ah.length<=20/\w.hints.length<=20:=by
 unfold pj at h;simp only[aK,decide_eq_true_eq,aG]at h;obtain⟨⟨⟨⟨⟨h1,j⟩,D⟩,G⟩,H⟩,I⟩:=h;have:w.ah.take 21=w.ah:=List.take_of_length_le (by omega);rw[this]at h1;exact⟨⟨by omega,by omega,by omega,λp hp=>(h1 p hp).1⟩,by omega,by omega,by omega⟩
def QQ:Nat->List Nat:=fun|7=>[55555]|12=>[55555]|_=>[]
def GF(w:aQ)(H:(w.ah.take 21).all (λp=>sr p.ai&&decide (p.ai.ag.length<=100))=true)(j:(w.ar.take 71).all (λh=>decide<|h.name.length<=100)=true)(st:St)(G:aI cx st ⟨[(1,.ptr 1 0)],[(1,.box<|(bF w).map .d)]⟩) :
 vc cx Tryz.f19.ntmps QQ (IP 3<|(Tryz.f19.body).getD .skip) (fnQ cx Tryz.f19.results.toList (.d<|.bool<|pj w) []) st:=by
 conv=>whnf
 refine⟨_,G,M ?_⟩
 have e:pj w=(decide ((w.ah.length:Int)<=20)&&decide ((w.ar.length:Int)<=70)&&decide ((w.hints.length:Int)<=20)&&decide ((w.anchor.data.length:Int)<=20)):=by
  unfold pj;rw[H,j];rfl
 repeat' (first|(refine aD ?_ ?_<;>intro h)|fail)
 all_goals (refine ak rfl ?_;show AV.d (D.bool _)=AV.d (D.bool _);congr 2;(try simp only[au]at *);rw[e];simp only[*, if_true,if_false,aX])
def JZ(w:aQ)(T:(w.ah.take 21).all (λp=>sr p.ai&&decide (p.ai.ag.length<=100))=true)(st:St)(U:aI cx st ⟨[(1,.ptr 1 0)],[(1,.box<|(bF w).map .d)]⟩) :
 vc cx Tryz.f19.ntmps QQ (IP 2<|(Tryz.f19.body).getD .skip) (fnQ cx Tryz.f19.results.toList (.d<|.bool<|pj w) []) st:=by
 conv=>whnf
 refine⟨_,U,M ?_⟩
 refine⟨Nat,λk=>⟨[(1,.ptr 1 0),(5,aj k)],[(1,.box<|(bF w).map .d)]⟩,λk=>k<=w.ar.length/\k<=71/\(w.ar.take k).all (λh=>decide<|h.name.length<=100)=true,λk=>w.ar.length-k,
  ⟨0,⟨Nat.zero_le _,Nat.zero_le _,rfl⟩,aI.keep⟩,λk ⟨V,G,j⟩=>M ?_⟩
 refine aD ?_ ?_<;>intro J
 .have D:k<w.ar.length:=by simpa using J
  obtain⟨x,I⟩:∃x,w.ar[k]? =some x:=⟨_,ao D⟩
  refine aD ?_ ?_<;>intro K
  .have H:k<71:=by simp at K;omega
   refine⟨aB k,gG x,aL I,M ?_⟩
   refine aD ?_ ?_<;>intro N
   .refine ak rfl ?_;have:(w.ar.take 71).all (λh=>decide<|h.name.length<=100)=false:=by
     rw[<- Bool.not_eq_true,aG];intro h;have:=h x (aw (i:=k)<|by rw[List.getElem?_take,if_pos H];exact I);simp at N this;omega
    have:pj w=false:=by unfold pj;rw[this];simp
    rw[this];rfl
   .refine⟨k+1,⟨D,by omega,?_⟩,by(show w.ar.length-(k+1)<w.ar.length-k;omega),aI.keep⟩;rw[cj I,List.all_append,j];simp at N;simp;omega
  .have:k=71:=by simp at K;omega
   subst this;exact GF w T j _<|aI.keep
 .obtain rfl:k=w.ar.length:=by simp at J;omega
  exact GF w T (by rw[List.take_length]at j;rw[List.take_of_length_le G];exact j) _<|aI.keep
def ZG(w:aQ):NQ.Fn cx 19 [.agg<|bF w] (.d<|.bool<|pj w) []:=by
 refine gr QQ bf mixed Tryz.func19 ?_;conv=>whnf
 refine⟨Nat,λk=>⟨[(1,.ptr 1 0),(3,aj k)],[(1,.box<|(bF w).map .d)]⟩,λk=>k<=w.ah.length/\k<=21/\(w.ah.take k).all (λp=>sr p.ai&&decide (p.ai.ag.length<=100))=true,λk=>w.ah.length-k,
  ⟨0,⟨Nat.zero_le _,Nat.zero_le _,rfl⟩,aI.keep⟩,λk ⟨V,I,j⟩=>M ?_⟩
 have W:∀p,w.ah[k]? =some p->k<21->(sr p.ai&&decide (p.ai.ag.length<=100))=false->pj w=false:=λp hp V U=>by
  have:(w.ah.take 21).all (λp=>sr p.ai&&decide (p.ai.ag.length<=100))=false:=by
   rw[<- Bool.not_eq_true,aG];intro h;rw[h p<|aw (i:=k)<|by rw[List.getElem?_take,if_pos V];exact hp]at U;cases U
  unfold pj;rw[this];simp
 refine aD ?_ ?_<;>intro J
 .have G:k<w.ah.length:=by simpa using J
  obtain⟨x,H⟩:∃x,w.ah[k]? =some x:=⟨_,ao G⟩
  refine aD ?_ ?_<;>intro K
  .have D:k<21:=by simp at K;omega
   refine⟨aB k,aP x,aL H,M ?_⟩
   (refine⟨_,_,abd x.ai,M ?_⟩)
   refine aD ?_ ?_<;>intro N
   .refine ak rfl ?_;rw[W x H D<|by simp_all];rfl
   refine⟨aB k,aP x,aL H,M ?_⟩
   refine aD ?_ ?_<;>intro T
   .refine ak rfl ?_;rw[W x H D<|by simp at T;simp;omega];rfl
   .refine⟨k+1,⟨G,by omega,?_⟩,by(show w.ah.length-(k+1)<w.ah.length-k;omega),aI.keep⟩;rw[cj H,List.all_append,j];simp at N T;simp[N];omega
  .have:k=21:=by simp at K;omega
   subst this;exact JZ w j _<|aI.keep
 .obtain rfl:k=w.ah.length:=by simp at J;omega
  exact JZ w (by rw[List.take_length]at j;rw[List.take_of_length_le I];exact j) _<|aI.keep
def NP{p q:al}(hp:aW p.ai=true)(j:aW q.ai=true):ik p q=(decide (gp p.ai>gp q.ai)||(decide (gp p.ai=gp q.ai)&&decide (p.host<q.host))):=by
 unfold ik jL;rw[hp,j];rfl
def zX(j : List al)(q : bO)(f : Nat)(a : Bs) : iT j (gA j) q (f + 1) a = match js j a with
  |none=>(pY,false)
  |some x=>if ((dL x.2.ai q).1.kind != 4)=true then((dL x.2.ai q).1,true)else iT j (gA j) q f (dL x.2.ai q).1.cut:=by
 rw[iT,Vj];cases h:js j a with
 |none=>rfl
 |some x =>
  simp only[Option.map_some];rw[JH j a x h]
def Af(w:aQ)(j:yD w):NQ.Fn cx 25 [.agg<|bF w] (.d<|.bool<|cT w) []:=Ia w (by have:=j.ar;omega) (by have:=j.ah;omega) (by have:=j.hints;omega)
def yT{n:Nat}:∀(l j:List al),gN n j l=true ↔ ((∀p∈l,((decide (p.host<0)||decide (p.host>=(n:Int))|| !aW p.ai)=false)/\j.any (kS p)=false)/\l.Pairwise (λx p=>kS p x=false))
 |[],j=>by simp[gN]
 |x::t,j=>by
  rw[gN,aK,yT t,List.pairwise_cons];simp only[List.any_append,List.any_cons,List.any_nil,vz,Bool.not_eq_true',List.mem_cons,forall_eq_or_imp];constructor
  .rintro⟨h1,D,G⟩;simp only[Bool.or_eq_false_iff]at h1 D ⊢;exact⟨⟨⟨⟨h1.1.1,h1.2⟩,h1.1.2⟩,λp hp=>⟨(D p hp).1,(D p hp).2.1⟩⟩,λp hp=>(D p hp).2.2,G⟩
  .rintro⟨⟨h1,D⟩,G,H⟩;simp only[Bool.or_eq_false_iff]at h1 D ⊢;exact⟨⟨⟨h1.1.1,h1.2⟩,h1.1.2⟩,λp hp=>⟨(D p hp).1,(D p hp).2,G p hp⟩,H⟩
def GZ{α:Type}[BEq α][LawfulBEq α]:∀{a b:List α},a.Nodup->(∀x∈a,x∈b)->a.length<=b.length
 |[],b,_,_=>Nat.zero_le _
 |x::t,b,j,D=>by
  have G:=D x (List.mem_cons_self ..);rw[List.nodup_cons]at j;have:=GZ (b:=b.erase x) j.2 λy H=>(List.mem_erase_of_ne λ(e:y=x)=>j.1<|e ▸ H).2<|D y<|aZ _ H
  rw[List.length_erase_of_mem G]at this;have h0:0<b.length:=List.length_pos_of_mem G;rw[List.length_cons];omega
def vC(l:List al):(Av l).Nodup/\ ∀a,a∈Av l ↔ ∃p∈l,p.ai.ag=a:=by
 have key:∀(l:List al) (out:List Bs),out.Nodup->(l.foldl (λout p=>if out.contains p.ai.ag=true then out else out++[p.ai.ag]) out).Nodup/\ ∀a,a∈l.foldl (λout p=>if out.contains p.ai.ag=true then out else out++[p.ai.ag]) out ↔ (a∈out\/ ∃p∈l,p.ai.ag=a):=λl=>by
  induction l with
  |nil=>intro out h;exact⟨h,λa=>by simp⟩
  |cons p t J =>
   intro out h;simp only[List.foldl_cons];by_cases G:out.contains p.ai.ag=true
   .rw[if_pos G];obtain⟨h1,D⟩:=J out h;refine⟨h1,λa=>?_⟩;rw[D];have H:p.ai.ag∈out:=iJ.1 G;constructor
    .rintro(h|⟨q,j,e⟩)
     .exact .inl h
     .exact .inr ⟨q,aZ _ j,e⟩
    .rintro(h|⟨q,j,e⟩)
     .exact .inl h
     .rcases List.mem_cons.1 j with rfl|j
      .exact .inl<|e ▸ H
      .exact .inr ⟨q,j,e⟩
   .rw[if_neg G];have H:p.ai.ag ∉ out:=λe=>G<|iJ.2 e
    obtain⟨h1,D⟩:=J (out++[p.ai.ag]) (by
     rw[List.nodup_append];exact⟨h,by simp,λa K b I=>by rw[List.mem_singleton]at I;subst I;exact λe=>H<|e ▸ K⟩)
    refine⟨h1,λa=>?_⟩;rw[D];constructor
    .rintro(h|⟨q,j,e⟩)
     .rcases List.mem_append.1 h with h|h
      .exact .inl h
      .rw[List.mem_singleton]at h;exact .inr ⟨p,List.mem_cons_self .., h.symm⟩
     .exact .inr ⟨q,aZ _ j,e⟩
    .rintro(h|⟨q,j,e⟩)
     .exact .inl<|List.mem_append.2<|.inl h
     .rcases List.mem_cons.1 j with rfl|j
      .exact .inl (List.mem_append.2<|.inr<|by rw[List.mem_singleton];exact e.symm)
      .exact .inr ⟨q,j,e⟩
 obtain⟨h1,D⟩:=key l [] List.nodup_nil;exact⟨h1,λa=>(D a).trans<|by simp⟩
def Gz{j:List al}{a:Bs}:js j a=none ↔ ∀p∈j,p.ai.ag≠a:=by
 unfold js;rw[yI];simp
