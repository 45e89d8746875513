/-
  Merged texts.
-/
import Derived.Test.YtjojkakjmoefaaaGreatDoorLrbM
import Derived.Test.YtjojkakjmoefaaaGreatDoorMLcv
set_option linter.all false
set_option maxRecDepth 100000
namespace Go.Proofs.YtjojkakjmoefaaaGreatDoor
open NQ Go.RowKit
variable {z:ax}{n:Bs}
def Tn(I:Ordered z)(h:dh z n≠[]):aR (dh z n)=true/\dG z.af ⟨dh z n,2⟩=true:=by
 unfold dh at h ⊢;cases j:(dv z.ag z.af).find? λc=>bd n c with
 |none=>rw[j]at h;exact absurd rfl h
 |some c =>
  have H:=List.mem_of_find?_eq_some j;obtain⟨_,_,D,_,G⟩:=Tq I H;exact⟨D,G⟩
def Ls(q:bO):Bool:=q.type==6||q.type==8
def UB{af:List Signed}(N:RP af){i j:Nat}{a b:Signed}(J:af[i]? =some a)(K:af[j]? =some b)(h:a.place=b.place):i=j:=by
 have hp:=List.pairwise_iff_getElem.1 N;obtain⟨H,D⟩:=aA.1 J;obtain⟨I,G⟩:=aA.1 K;rcases Nat.lt_trichotomy i j with hf|heq|hf
 .exact absurd h (by have:=hp i j H I hf;rw[D,G]at this;exact lS this)
 .exact heq
 .exact absurd h.symm (by have:=hp j i I H hf;rw[D,G]at this;exact lS this)
def Zu{a b:Bs}(h:bl a b<=0):0<=bl b a:=by have:=bI.lE a b;omega
def Wb{a b:Bs}(h:0<=bl a b):bl b a<=0:=by have:=bI.lE a b;omega
def Vm{s:Bs}(D:aR s=true)(j:aR n=true):(bD s n).1=bd s n:=by unfold bD;rw[if_pos ⟨D,j⟩]
def nX(W:Ordered z)(Z:aR n=true):exB z.af n=nY z n:=by
 have hp:=pR W.rising;have U:∀s∈z.af,bd s.set.name n=true-> ∃i,z.af[i]? =some s/\sy z.af n<=i:=λs I D=>by
  obtain⟨i,j⟩:=cO I;exact⟨i,j,(xW hp j).2<|Zu<|qY D⟩
 unfold exB nY;cases G:z.af[sy z.af n]? with
 |none =>
  symm
  rw[List.any_eq_false];intro s I D;obtain⟨i,j,H⟩:=U s I D;have h1:=(aA.1 j).1;have V:=List.getElem?_eq_none_iff.1 G;omega
 |some t =>
  have J:=aw G;simp only;rw[Vm (W.name t J) Z];cases D:bd t.set.name n with
  |true=>symm;exact List.any_eq_true.2 ⟨t,J,D⟩
  |false =>
   symm
   rw[List.any_eq_false];intro s I K;obtain⟨i,j,H⟩:=U s I K;have N:bl n t.set.name<=0:=Wb<|(xW hp G).1<|Nat.le_refl _;have T:bl t.set.name s.set.name<=0:=by
    rcases Nat.lt_or_eq_of_le H with hf|heq
    .obtain⟨h1,X⟩:=aA.1 G;obtain⟨V,Y⟩:=aA.1 j;have:=List.pairwise_iff_getElem.1 hp _ _ h1 V hf
     rwa [X,Y]at this
    .rw[<- heq,G]at j;cases j;have:=(bI.zero t.set.name t.set.name).2 rfl;omega
   have:=qZ (kV n) K N T;rw[D]at this;cases this
variable {v:View}
def ZQ{l:List Datum}{q:Int}(D:q∈ix v l):q<v.af.length:=by
 unfold ix at D;obtain⟨x,_,j⟩:=List.mem_flatMap.1 D;split at j
 .simp at j;rw[j];exact fD _ _
 .cases j
def Hf{q:Int}(j:q∈il v):q<v.af.length:=by
 unfold il at j;rcases List.mem_append.1 j with j|j
 .simp at j;rcases j with rfl|rfl
  .exact fD _ _
  .unfold nJ;split<;>exact fD _ _
 .exact ZQ j
def Lb(l:List Signed):∀(D j:List Int),(dw l j D).length<=D.length
 |[],_=>by simp[dw]
 |p::t,j=>by
  have:=Lb l t<|j++[p];rw[dw];split
  .rw[List.length_cons];omega
  .rw[List.length_cons,List.length_cons];omega
def uq{l:List Signed}:∀{J j:List Int},(∀p∈J,p<l.length)-> ∀s∈dw l j J,∃p∈J,p ∉ j/\0<=p/\l[p.toNat]? =some s
 |[],_,_,s,D=>by simp[dw]at D
 |p::t,j,hp,s,D=>by
  rw[dw]at D;split at D
  .obtain⟨q,h1,G,H⟩:=uq (λq I=>hp q<|aZ _ I) s D;exact⟨q,aZ _ h1,λe=>G<|List.mem_append.2<|.inl e,H⟩
  .rename_i K;simp only[Bool.or_eq_true,decide_eq_true_eq,iJ,not_or]at K;have T:=hp p (List.mem_cons_self ..);obtain⟨x,N⟩:∃x,l[p.toNat]? =some x:=⟨_,ao<|by omega⟩
   rw[N]at D;rcases List.mem_cons.1 D with e|D
   .have e:s=x:=e;subst e;exact⟨p,List.mem_cons_self .., K.2,by omega,N⟩
   .obtain⟨q,h1,G,H⟩:=uq (λq I=>hp q<|aZ _ I) s D;exact⟨q,aZ _ h1,λe=>G<|List.mem_append.2<|.inl e,H⟩
def rC(v:View):(bQ v).af=v.af:=by unfold bQ;split<;>rfl
def Ng(G:(oZ v).length<=900):∃j:List Int,(∀p∈j,p<v.af.length)/\j.length<=1000/\(hZ v).af=dw v.af [] j:=by
 have e:=rC v;have H:=uT v<|oZ v;unfold hZ;split
 .rename_i h;refine⟨il v,λp hp=>Hf hp,?_,?_⟩
  .unfold il;simp;omega
  .unfold nL;rw[if_pos h]
 split
 .exact⟨_,by simp[fD],by simp,rfl⟩
 split
 .exact⟨_,by simp[fD],by simp,rfl⟩
 split
 .rename_i h;refine⟨[jX v,kn v.af v.q.name],by simp[jX,fD,iO],by simp,?_⟩;unfold ot;rw[if_pos h]
 split
 .refine⟨[_,_],?_,by simp,by unfold Bb;rw[e]⟩;intro p hp;simp only[List.mem_cons,List.not_mem_nil,or_false]at hp;rcases hp with rfl|rfl
  .exact fD _ _
  .exact iO _ _
 split
 .refine⟨[_,_],?_,by simp,by unfold oC;rw[e]⟩;intro p hp;simp only[List.mem_cons,List.not_mem_nil,or_false]at hp;rcases hp with rfl|rfl
  .exact fD _ _
  .exact iO _ _
 split
 .rename_i h;refine⟨[_,_,_],?_,by simp,by unfold oD;rw[if_pos h,e]⟩;intro p hp;simp only[List.mem_cons,List.not_mem_nil,or_false]at hp;rcases hp with rfl|rfl|rfl
  .unfold jX;rw[e];exact fD _ _
  .exact iO _ _
  .exact iO _ _
 .refine⟨[_,_,_],?_,by simp,by unfold qR;rw[e]⟩;intro p hp;simp only[List.mem_cons,List.not_mem_nil,or_false]at hp;have D:(0:Int)<=v.af.length:=by omega
  rcases hp with rfl|rfl|rfl
  .unfold jX;rw[e];exact fD _ _
  .exact iO _ _
  .split
   .omega
   .exact iO _ _
def Bi(D:∀s∈z.af,s.set.data.length<=900)(q:bO):∃j:List Int,(∀p∈j,p<z.af.length)/\j.length<=1000/\(dL z q).1.af=dw z.af [] j:=by
 have none:∃j:List Int,(∀p∈j,p<z.af.length)/\j.length<=1000/\([]:List Signed)=dw z.af [] j:=⟨[],by simp,by simp,rfl⟩
 unfold dL;split
 .exact none
 split
 .exact none
 split
 .exact none
 .refine Ng (v:=uB z q _ _) ?_;unfold oZ;split
  .rename_i s G;have:=D s<|aw G;omega
  .simp
def Jl(D:∀s∈z.af,s.set.data.length<=900)(q:bO):(dL z q).1.af.length<=1000:=by
 obtain⟨G,h1,H,j⟩:=Bi D q;rw[j];have:=Lb z.af G [];omega
structure iq(z:ax)(q:bO):Prop where
 val:aW z=true
 Za:eO q=true
 under:bd q.name z.ag=true
variable {q:bO}
def iq.name(u:iq z q):aR q.name=true:=by have:=u.Za;unfold eO at this;simp only[aK]at this;exact this.1.1
def iq.ord(u:iq z q):Ordered z:=bt u.val
def vw(z:ax)(q:bO):View:=uB z q (dh z q.name) (!(dh z q.name==[]))
def iq.cut(u:iq z q):gO z q.name=(dh z q.name, !(dh z q.name==[]),0):=ZA u.val u.name u.under
def iq.ans(u:iq z q):dL z q=(hZ<|vw z q,0):=by
 have j:=u.Za;unfold eO at j;simp only[aK,decide_eq_true_eq]at j;unfold dL;rw[if_neg<|by simp;omega,u.cut];rfl
def yq(z:ax)(q:bO):fF (vw z q)=(!(dh z q.name==[])&& !((dh z q.name==q.name)&&Ls q)):=by
 unfold fF CZ Ls vw uB;dsimp only;rw[Bool.beq_comm (a:=q.name) (b:=dh z q.name)];cases (dh z q.name==[])<;>cases (dh z q.name==q.name)<;>simp
def Gp(v:View):(hZ v).kind=if fF v=true then 4 else if xq v=true then 1 else if rI v=true then 3 else if exB v.af v.q.name=true then 5
 else if vx (bQ v)=true then 2 else if iC (bQ v)=true then 3 else if oE (bQ v)=true then 5 else 6:=by
 unfold hZ;split
 .rename_i h;unfold nL;rw[if_pos h]
 split
 .rfl
 split
 .rfl
 split
 .rename_i h;unfold ot;rw[if_pos h]
 split
 .rfl
 split
 .rfl
 split
 .rename_i h;unfold oD;rw[if_pos h]
 .rfl
def JT(z:ax)(q:bO):xq (vw z q)=dG z.af q:=by
 have h:=tv z.af q;show decide (atI z.af q>=0)=_
 cases j:dG z.af q with
 |true =>
  rw[j]at h;have:¬atI z.af q<0:=by simpa using h
  exact decide_eq_true (by omega)
 |false =>
  rw[j]at h;have:atI z.af q<0:=by simpa using h
  exact decide_eq_false (by omega)
def VH(h:fF v=false):(hZ v).cut=[]:=by
 unfold hZ;rw[if_neg<|by simp[h]]
 repeat' split
 all_goals first|rfl|skip
 .unfold ot;split<;>rfl
 .unfold oD;split<;>rfl
def iq.aas(u:iq z q)(j:fF (vw z q)=false):((dL z q).1.kind==4)=false/\(dL z q).1.cut=[]:=by
 rw[u.ans];refine⟨?_,VH j⟩;show((hZ<|vw z q).kind==4)=false
 rw[Gp,j];simp only[eV, ↓reduceIte]
 repeat' split
 all_goals rfl
def iq.RF(u:iq z q)(N:fF (vw z q)=true):∃s0 R,s0∈z.af/\s0.place=(dh z q.name,2)/\(dL z q).1=⟨4,s0::R,dh z q.name⟩ /\
 ∀s∈R,(s.set.type=6/\s.set.name=dh z q.name)\/(s.set.type=8/\s.set.name=dh z q.name)\/(s.set.type=1/\bD s.set.name (dh z q.name)=(true,0)/\s0.set.data.any (λd=>d.text==s.set.name)=true):=by
 have Y:dh z q.name≠[]:=by
  intro e;rw[yq,e]at N;cases N
 obtain⟨V,K⟩:=Tn u.ord Y;have ho:=u.ord;obtain⟨k,s0,h1,U,h3⟩:=wZ K;have X:=aw U;have D:ib (vw z q)=((k:Nat):Int):=h1;have hl:oZ (vw z q)=s0.set.data:=by
  unfold oZ;rw[D];show(match z.af[((k:Nat):Int).toNat]? with|some s=>s.set.data|none=>[])=_
  rw[show((k:Nat):Int).toNat=k by simp,U]
 have W:∀p∈il (vw z q),p<z.af.length:=λp hp=>Hf (v:=vw z q) hp
 have e1:dw z.af [] (il<|vw z q)=s0::dw z.af [ib<|vw z q] (nJ (vw z q)::ix (vw z q) (oZ<|vw z q)):=by
  unfold il;rw[show[ib<|vw z q,nJ<|vw z q]++ix (vw z q) (oZ<|vw z q)=ib (vw z q)::(nJ (vw z q)::ix (vw z q) (oZ<|vw z q))from rfl,dw,if_neg<|by rw[D];simp];rw[D];simp[U]
 refine⟨s0,dw z.af [ib<|vw z q]<|nJ (vw z q)::ix (vw z q) (oZ<|vw z q),X,h3,?_,λs hs=>?_⟩
 .rw[u.ans];show hZ (vw z q)=_
  unfold hZ;rw[if_pos N];unfold nL;rw[if_pos N];show(⟨4,dw z.af []<|il<|vw z q,dh z q.name⟩:Ans)=_
  rw[e1]
 .obtain⟨p,Z,ht,hx,I⟩:=uq (λp hp=>W p<|by unfold il;exact aZ _ hp) s hs;have hq:=aw I;have H:∀J :bO,p=atI z.af J ->s.place=J.place:=λJ e=>by
   have hh:dG z.af J =true:=by
    have:=tv z.af J;cases hc:dG z.af J with
    |true=>rfl
    |false=>rw[hc]at this;simp at this;omega
   obtain⟨j,t,a1,a2,a3⟩:=wZ hh;rw[a1]at e;have:p.toNat=j:=by omega
   rw[this,a2]at I;cases I;exact a3
  rcases List.mem_cons.1 Z with hp|hp
  .unfold nJ at hp;split at hp
   .have:=H ⟨dh z q.name,8⟩ hp;exact .inr<|.inl ⟨congrArg Prod.snd this,congrArg Prod.fst this⟩
   .have:=H ⟨dh z q.name,6⟩ hp;exact .inl ⟨congrArg Prod.snd this,congrArg Prod.fst this⟩
  .unfold ix at hp;obtain⟨d,hd,T⟩:=List.mem_flatMap.1 hp;split at T
   .rename_i hu;simp at T;have:=H ⟨d.text,1⟩ T;have hn:s.set.name=d.text:=congrArg Prod.fst this;refine .inr<|.inr ⟨congrArg Prod.snd this,?_,?_⟩
    .have hv:=ho.name s hq;have G :(bD d.text<|dh z q.name).1=true:=hu;rw[<- hn]at G;unfold bD at G ⊢;rw[if_pos ⟨hv,V⟩]at G ⊢;simp only at G;rw[G]
    .rw[hl]at hd;exact List.any_eq_true.2 ⟨d,hd,by rw[hn];simp⟩
   .cases T
variable {y:ax}
def Nr(I:y.ag=z.ag)(h:∀s:Signed,s.set.type=2->(s∈y.af ↔ s∈z.af))(c:Bs):c∈dv y.ag y.af ↔ c∈dv z.ag z.af:=by
 rw[jD,jD,I];have H:∀s:Signed,eS z.ag s=true->s.set.type=2:=λs G=>by unfold eS at G;simp only[aK,beq_iff_eq]at G;exact G.1
 constructor
 .rintro⟨s,h1,j,D⟩;exact⟨s,(h s<|H s j).1 h1,j,D⟩
 .rintro⟨s,h1,j,D⟩;exact⟨s,(h s<|H s j).2 h1,j,D⟩
def RL(a b:Ans)(K:a.af.length<=100000)(N:∀s∈a.af,s.set.data.length<=100000/\s.sigs.length<=100000):NQ.Fn cx 13 [.agg<|jr a,.agg<|jr b] (.d<|.bool<|decide<|a=b) []:=by
 refine bL bf mixed Tryz.func13 ?_
 (refine⟨_,_,BK a.af b.af K N,M ?_⟩)
 refine aD ?_ ?_<;>intro h1
 .refine aD ?_ ?_<;>intro j
  .refine ak rfl ?_;have G:a.af=b.af:=by simpa using h1
   have H:a.kind=b.kind:=by simpa using j
   show AV.d (D.bool<|a.cut==b.cut)=_
   congr 2
   obtain⟨T,V,I⟩:=a;obtain⟨U,W,J⟩:=b;simp only at G H;subst G;subst H;by_cases e:I=J
   .subst e;rw[decide_eq_true rfl];simp
   .rw[decide_eq_false λh=>e<|by cases h;rfl];simpa using e
  .exact ak rfl (mh λe=>by rw[e]at j;simp at j)
 .exact ak rfl (mh λe=>by rw[e]at h1;simp at h1)
def gi{s:Signed}:s∈(cJ z).af ↔ s∈z.af/\s.set.type≠8:=by
 unfold cJ gZ;simp[List.mem_filter]
def tO(j:Ordered z):Ordered (cJ z) :=
 ⟨j.ag,j.Yq,Nat.le_trans (List.length_filter_le _ _) j.few,λs D=>j.set s (gi.1 D).1,λs D=>j.under s (gi.1 D).1,RP.rising<|j.rising.pw.filter _⟩
def SU(c:Bs):c∈dv (cJ z).ag (cJ z).af ↔ c∈dv z.ag z.af :=
 Nr (z:=z) (y:=cJ z) rfl (λs j=>⟨λh=>(gi.1 h).1,λh=>gi.2 ⟨h,by rw[j];decide⟩⟩) c
def SV(j:Ordered z)(n:Bs):spec (cm<|cJ z) n=spec (cm z) n :=
 Sd (tO j) j SU n
def pZ(G:aW z=true):aW (cJ z)=true:=by
 have V:=rf.1 G;have D:=V.ord;have H:=tO D;refine Vg G rfl H (λx I=>(gi.1 I).1) ?_ ?_ ?_
 .obtain⟨s,j,hp⟩:=lK.1 V.start;exact lK.2 ⟨s,gi.2 ⟨j,by have:s.set.type=4:=congrArg Prod.snd hp;omega⟩,hp⟩
 .obtain⟨s,j,hp⟩:=lK.1 V.abG;exact lK.2 ⟨s,gi.2 ⟨j,by have:s.set.type=2:=congrArg Prod.snd hp;omega⟩,hp⟩
 .refine(uL H).2 λs j=>?_
  rw[SV D];exact V.cut s (gi.1 j).1
def wv:List Signed->List cH->List Signed
 |[],_=>[]
 |s::t,j=>if mj s t=true then s::wv t j else if jl s j=true then s::((match j with|y::_=>[⟨y,[]⟩]|[]=>[])++wv t j.tail)else s::wv t j
def PS(s:Signed)(t:List Signed)(j:List cH):wv (s::t) j=if mj s t=true then s::wv t j else if jl s j=true then s::((match j with|y::_=>[⟨y,[]⟩]|[]=>[])++wv t j.tail)else s::wv t j:=by
 conv=>lhs;rw[wv.eq_def]
def yt:∀(l:List Signed) (j:List cH) (acc:List Signed),iV l j acc=acc++wv l j
 |[],j,acc=>by rw[Ai,wv.eq_def];simp
 |s::t,j,acc=>by
  rw[yr,PS];split
  .rw[yt t j];simp
  .split
   .rw[yt t j.tail];cases j<;>simp
   .rw[yt t j];simp
variable {a b:Bs×Int}
def Ck(h:bl a.1 b.1<0):cpl a b<0:=by
 unfold cpl lex;rw[if_neg<|by omega];exact h
def JL(h:a.1=b.1)(k:a.2<b.2):cpl a b<0:=by
 unfold cpl lex;rw[if_pos<|by rw[h];exact(bI.zero _ _).2 rfl];unfold dI;simp[k]
def Fo(h:cpl a b<0):bl a.1 b.1<0\/(a.1=b.1/\a.2<b.2):=by
 unfold cpl lex at h;split at h
 .rename_i e;right;refine⟨(bI.zero _ _).1 e,?_⟩;unfold dI at h;split at h
  .assumption
  .split at h<;>omega
 .exact .inl h
def aar(h:cpl a b<0)(j:a.1≠b.1):bl a.1 b.1<0:=by
 rcases Fo h with h|⟨h,_⟩
 .exact h
 .exact absurd h j
def aaq(h:cpl a b<0):bl a.1 b.1<=0:=by
 rcases Fo h with h|⟨h,_⟩
 .omega
 .rw[h];have:=(bI.zero b.1 b.1).2 rfl;omega
def wQ:∀(l:List Signed) (H:List cH),RP l->(∀s∈l,s.set.type<8)->H.Pairwise (λa b=>bl a.name b.name<0)->(∀y∈H,y.type=8/\ ∃s∈l,s.set.name=y.name) ->
 RP (wv l H)/\ ∀x,x∈wv l H ↔ x∈l\/ ∃y∈H,x=⟨y,[]⟩
 |[],H,_,_,_,hw=>by
  have:H=[]:=by
   cases H with
   |nil=>rfl
   |cons y t=>obtain⟨_,s,hs,_⟩:=hw y (List.mem_cons_self ..);cases hs
  subst this;rw[wv.eq_def];exact⟨List.Pairwise.nil,λx=>by simp⟩
 |s::t,H,hr,h8,ha,hw=>by
  obtain⟨h1,h2⟩:=List.pairwise_cons.1 hr;have Y:∀x∈t,x.set.type<8:=λx J=>h8 x<|aZ _ J
  have hy:=h8 s (List.mem_cons_self ..);have L:∀y∈H,cpl s.place (y.name,y.type)<0:=λy T=>by
   obtain⟨hi,w,V,I⟩:=hw y T;rcases List.mem_cons.1 V with rfl|hwt
   .exact JL I (by show w.set.type<_;omega)
   .rcases Fo (h1 w hwt)with k|⟨k,_⟩
    .exact Ck (by rw[<- I];exact k)
    .exact JL (by rw[<- I];exact k) (by show s.set.type<_;omega)
  have D:∀{nx' :List cH},(∀y∈nx',y∈H)->(RP (wv t nx')/\ ∀x,x∈wv t nx' ↔ x∈t\/ ∃y∈nx',x=⟨y,[]⟩)->RP (s::wv t nx'):=λhg N=>List.pairwise_cons.2 ⟨λx J=>by
   rcases (N.2 x).1 J with J|⟨y,T,rfl⟩
   .exact h1 x J
   .exact L y<|hg y T,N.1⟩
  rw[PS];by_cases G:mj s t=true
  .rw[if_pos G];have N:=wQ t H h2 Y ha (λy T=>by
    obtain⟨hi,w,V,I⟩:=hw y T;refine⟨hi,?_⟩;rcases List.mem_cons.1 V with rfl|hwt
    .cases t with
     |nil=>cases G
     |cons x t' =>exact⟨x,List.mem_cons_self .., (by simpa [mj] using G:x.set.name=w.set.name).trans I⟩
    .exact⟨w,hwt,I⟩)
   exact⟨D (λy T=>T) N,λx=>by rw[List.mem_cons,N.2 x,List.mem_cons];exact or_assoc.symm⟩
  .rw[if_neg G];have hf:∀x∈t,bl s.set.name x.set.name<0:=by
    cases t with
    |nil=>intro x J;cases J
    |cons x0 t' =>
     have h0:bl s.set.name x0.set.name<0:=aar (h1 x0 (List.mem_cons_self ..)) (λe=>G<|by simp only[mj,beq_iff_eq];exact e.symm);intro x J;rcases List.mem_cons.1 J with rfl|J
     .exact h0
     .exact bI.Rk h0<|aaq<|(List.pairwise_cons.1 h2).1 x J
   cases H with
   |nil =>
    rw[if_neg<|by simp[jl]];have N:=wQ t [] h2 Y ha (λy T=>by cases T);exact⟨D (λy T=>T) N,λx=>by rw[List.mem_cons,N.2 x,List.mem_cons];exact or_assoc.symm⟩
   |cons y H =>
    obtain⟨a1,a2⟩:=List.pairwise_cons.1 ha;obtain⟨hi,w,V,I⟩:=hw y (List.mem_cons_self ..);by_cases hh:jl s (y::H)=true
    .rw[if_pos hh];have Z:y.name=s.set.name:=by simpa [jl] using hh
     have N:=wQ t H h2 Y a2 (λU j =>by
      obtain⟨X,w',W,K⟩:=hw U<|aZ _ j;refine⟨X,?_⟩;rcases List.mem_cons.1 W with rfl|hwt
      .have:=a1 U j;rw[Z,K,(bI.zero _ _).2 rfl]at this;omega
      .exact⟨w',hwt,K⟩)
     have hR:=D (nx' :=H) (λU j =>aZ _ j) N;obtain⟨r1,r2⟩:=List.pairwise_cons.1 hR;refine⟨?_,λx=>?_⟩
     .show RP<|s::(([⟨y,[]⟩]:List Signed)++wv t H)
      refine List.pairwise_cons.2 ⟨λx J=>?_,List.pairwise_cons.2 ⟨λx J=>?_,N.1⟩⟩
      .rcases List.mem_cons.1 J with rfl|J
       .exact L y (List.mem_cons_self ..)
       .exact r1 x J
      .rcases (N.2 x).1 J with J|⟨U,j,rfl⟩
       .exact Ck (by show bl y.name x.set.name<0;rw[Z];exact hf x J)
       .exact Ck<|a1 U j
     .show x∈s::(([⟨y,[]⟩]:List Signed)++wv t H) ↔ _
      rw[List.mem_cons,List.mem_append,List.mem_singleton,N.2 x,List.mem_cons];constructor
      .rintro(h|h|h|⟨U,j,h⟩)
       .exact .inl<|.inl h
       .exact .inr ⟨y,List.mem_cons_self .., h⟩
       .exact .inl<|.inr h
       .exact .inr ⟨U,aZ _ j,h⟩
      .rintro((h|h)|⟨U,j,h⟩)
       .exact .inl h
       .exact .inr<|.inr<|.inl h
       .rcases List.mem_cons.1 j with rfl|j
        .exact .inr<|.inl h
        .exact .inr<|.inr<|.inr ⟨U,j,h⟩
    .rw[if_neg hh];have Z:y.name≠s.set.name:=λe=>hh (by simp only[jl,beq_iff_eq];exact e)
     have hj:bl s.set.name y.name<0:=by
      rcases List.mem_cons.1 V with rfl|hwt
      .exact absurd I.symm Z
      .rw[<- I];exact hf w hwt
     have N:=wQ t (y::H) h2 Y ha (λU j =>by
      obtain⟨X,w',W,K⟩:=hw U j;refine⟨X,?_⟩;rcases List.mem_cons.1 W with rfl|hwt
      .exfalso
       have:bl w'.set.name U.name<0:=by
        rcases List.mem_cons.1 j with rfl|j
        .exact hj
        .exact bI.Rk hj (by have:=a1 U j;omega)
       rw[K,(bI.zero _ _).2 rfl]at this;omega
      .exact⟨w',hwt,K⟩)
     exact⟨D (λy T=>T) N,λx=>by rw[List.mem_cons,N.2 x,List.mem_cons];exact or_assoc.symm⟩
def yN(a:Nat)(h:a<1024):(BitVec.ofInt 64 (a:Int)).toNat=a:=by
 rw[BitVec.ofInt_natCast,BitVec.toNat_ofNat,Nat.mod_eq_of_lt<|by omega]
def OL{a b:Nat}(j:a<1024)(D:b<1024):bOr .i64 (a:Int) (b:Int)=((a ||| b:Nat):Int)/\a ||| b<1024:=by
 have h:a ||| b<1024:=Nat.or_lt_two_pow (n:=10) j D
 refine⟨?_,h⟩;unfold bOr;show IntKind.i64.wrap (((BitVec.ofInt 64 (a:Int) ||| BitVec.ofInt 64 (b:Int)).toNat:Nat):Int)=_
 rw[BitVec.toNat_or,yN a j,yN b D,wrap_i64 (by omega)<|by omega]
def VS{a b:Nat}(j:a<1024)(D:b<1024):xc .i64 (a:Int) (b:Int)=((a &&& b:Nat):Int):=by
 have h:a &&& b<1024:=Nat.lt_of_le_of_lt Nat.and_le_left j;unfold xc;show IntKind.i64.wrap (((BitVec.ofInt 64 (a:Int) &&& BitVec.ofInt 64 (b:Int)).toNat:Nat):Int)=_
 rw[BitVec.toNat_and,yN a j,yN b D,wrap_i64 (by omega)<|by omega]
def Nk{a:Nat}(D:a<1024):qJ .i64 (a:Int) 2=((a &&& 1021:Nat):Int):=by
 have h:a &&& 1021<1024:=Nat.lt_of_le_of_lt Nat.and_le_left D;unfold qJ;show IntKind.i64.wrap (((BitVec.ofInt 64 (a:Int) &&& ~~~ BitVec.ofInt 64 (2:Int)).toNat:Nat):Int)=_
 have e:(BitVec.ofInt 64 (a:Int) &&& ~~~ BitVec.ofInt 64 (2:Int)).toNat=a &&& 1021:=by
  rw[BitVec.toNat_and,yN a D];apply Nat.eq_of_testBit_eq;intro i;rw[Nat.testBit_and,Nat.testBit_and];by_cases H:i<10
  .have:(~~~ BitVec.ofInt 64 (2:Int)).toNat.testBit i=Nat.testBit 1021 i:=by
    have G:∀j<10,(~~~ BitVec.ofInt 64 (2:Int)).toNat.testBit j=Nat.testBit 1021 j:=by decide
    exact G i H
   rw[this]
  .have:a.testBit i=false:=Nat.testBit_lt_two_pow (Nat.lt_of_lt_of_le D (Nat.pow_le_pow_right (n:=2) (by decide) (by omega:10<=i)));rw[this];rfl
 rw[e,wrap_i64 (by omega) (by omega)]
def VY{t:Int}(h0:0<=t)(j:t<=8):Fg t=((2 ^ t.toNat:Nat):Int)/\2 ^ t.toNat<1024:=by
 obtain⟨n,rfl⟩:∃n:Nat,t=n:=⟨t.toNat,by omega⟩
 have:n=0\/n=1\/n=2\/n=3\/n=4\/n=5\/n=6\/n=7\/n=8:=by omega
 rcases this with rfl|rfl|rfl|rfl|rfl|rfl|rfl|rfl|rfl<;>exact⟨by decide,by decide⟩
def rN(l:List Signed)(n:Bs)(b:Nat):Nat:=(l.filter<|named n).foldl (λb s=>b ||| 2 ^ s.set.type.toNat) b
def yK:∀(l:List Signed) (n:Bs) (b:Nat),b<1024->(∀s∈l,0<=s.set.type/\s.set.type<=8) ->
 (l.filter<|named n).foldl (λb s=>bOr .i64 b<|Fg s.set.type) (b:Int)=(rN l n b:Int)/\rN l n b<1024/\ ∀i,(rN l n b).testBit i=(b.testBit i||l.any λs=>named n s&&s.set.type.toNat==i)
 |[],n,b,H,_=>⟨rfl,H,λi=>by simp[rN]⟩
 |s::t,n,b,H,h=>by
  obtain⟨h0,T⟩:=h s (List.mem_cons_self ..);have J:=λx U=>h x<|aZ s U
  unfold rN;rw[List.filter_cons];cases I:named n s with
  |true =>
   obtain⟨K,N⟩:=VY h0 T;obtain⟨V,W⟩:=OL H N;obtain⟨j,D,G⟩:=yK t n (b ||| 2 ^ s.set.type.toNat) W J;unfold rN at j D G;simp only[if_true,List.foldl_cons];rw[K,V];refine⟨j,D,λi=>?_⟩;rw[G i,Nat.testBit_or,Nat.testBit_two_pow,List.any_cons,I,gq,Bool.or_assoc];rfl
  |false =>
   obtain⟨j,D,G⟩:=yK t n b H J;unfold rN at j D G;simp only[eV,if_false];refine⟨j,D,λi=>?_⟩;rw[G i,List.any_cons,I,pW,iI]
variable {l:List Signed}
def SZ(n:Bs)(h:∀s∈l,0<=s.set.type/\s.set.type<=8):∃b:Nat,kg l n=b/\b<1024/\ ∀i,b.testBit i=l.any λs=>named n s&&s.set.type.toNat==i:=by
 obtain⟨j,D,G⟩:=yK l n 0 (by decide) h;exact⟨rN l n 0,j,D,λi=>by rw[G i];simp⟩
def xC(l:List Signed)(n:Bs)(i:Nat):Bool:=l.any λs=>named n s&&s.set.type.toNat==i
def FU(y:ax)(n:Bs)(i:Nat):Bool:=(i==8)||(xC y.af n i&& !((i==1)&&(!(n==y.ag)&&xC y.af n 2)))
def Zr(i:Nat)(G:i<10):Nat.testBit 1021 i= !(i==1):=by
 have D:∀j<10,Nat.testBit 1021 j= !(j==1):=by decide
 exact D i G
def VG(x:Nat):x &&& 4=if x.testBit 2=true then 4 else 0:=by
 apply Nat.eq_of_testBit_eq;intro i;rw[Nat.testBit_and,show(4:Nat)=2 ^ 2 from rfl,Nat.testBit_two_pow];have j:Nat.testBit 4 i=decide (2=i):=by rw[show(4:Nat)=2 ^ 2 from rfl,Nat.testBit_two_pow]
 by_cases h:2=i
 .subst h;cases D:x.testBit 2
  .simp
  .rw[if_pos rfl,j];simp
 .cases D:x.testBit 2
  .simp[h]
  .rw[if_pos rfl,j];simp[h]
def WY(U:∀s∈y.af,1<=s.set.type/\s.set.type<8)(n:Bs):∃h:Nat,sQ y n=h/\h<512/\256<=h/\h % 2=0/\ ∀i,h.testBit i=FU y n i:=by
 obtain⟨b,hb,V,W⟩:=SZ (l:=y.af) n (λs K=>by have:=U s K;omega);have J :∀i,b.testBit i=xC y.af n i:=W;obtain⟨o1,Z⟩:=OL V (show 256<1024 by decide);have H :bOr .i64 (kg y.af n) 256=((b ||| 256:Nat):Int):=by rw[hb];exact o1
 have D:∀i,(b ||| 256).testBit i=((i==8)||xC y.af n i):=λi=>by
  rw[Nat.testBit_or,J,show(256:Nat)=2 ^ 8 from rfl,Nat.testBit_two_pow,Bool.or_comm]
  congr 1
  rw[Bool.eq_iff_iff];simp;omega
 have I:∀i,9<=i->xC y.af n i=false:=λi N=>by
  rw[<- Bool.not_eq_true];intro h;obtain⟨s,K,hp⟩:=List.any_eq_true.1 h;have:=U s K;simp at hp;omega
 have X:xC y.af n 0=false:=by
  rw[<- Bool.not_eq_true];intro h;obtain⟨s,K,hp⟩:=List.any_eq_true.1 h;have:=U s K;simp at hp;omega
 have a4:(xc .i64 (bOr .i64 (kg y.af n) 256) 4 != 0)=xC y.af n 2:=by
  have:=VS Z (show 4<1024 by decide);rw[H,show xc .i64 ((b ||| 256:Nat):Int) 4=(((b ||| 256) &&& 4:Nat):Int)from this,VG,D 2];cases xC y.af n 2<;>rfl
 obtain⟨h,hh,j⟩:∃h:Nat,sQ y n=h/\ ∀i,h.testBit i=FU y n i:=by
  unfold sQ;rw[a4];cases Y:(!(n==y.ag)&&xC y.af n 2)with
  |true =>
   rw[if_pos rfl];refine⟨(b ||| 256) &&& 1021,by rw[H];exact Nk Z,λi=>?_⟩;rw[Nat.testBit_and,D i];unfold FU;rw[Y];by_cases N:i<10
   .rw[Zr i N];by_cases h1:i=1
    .subst h1;simp
    .have T :(i==1)=false:=by simpa using h1
     rw[T];simp
   .have G:(i==8)=false:=by simp;omega
    rw[I i<|by omega,G];rfl
  |false =>
   rw[if_neg<|by decide];refine⟨b ||| 256,H,λi=>?_⟩;rw[D i];unfold FU;rw[Y];simp
 refine⟨h,hh,?_,?_,?_,j⟩
 .refine Nat.lt_pow_two_of_testBit (n:=9) h λi N=>?_
  rw[j i];unfold FU;have G:(i==8)=false:=by simp;omega
  rw[G,I i N];rfl
 .refine Nat.ge_two_pow_of_testBit (i:=8) ?_;rw[j 8];rfl
 .have:h.testBit 0=false:=by
   rw[j 0];unfold FU;rw[X];rfl
  rw[Nat.testBit_zero]at this;simp at this;omega
def Og{s:cH}(h:eE s=true):∃d,s.data[0]? =some d/\iA (nO s.type) d=true:=by
 obtain⟨d,j⟩:∃d,s.data[0]? =some d:=by
  unfold eE at h;simp only[aK,Bool.not_eq_true',Bool.or_eq_false_iff,Bool.not_eq_false']at h;have:=h.1.1.2;simp[within]at this;exact⟨_,ao<|by omega⟩
 refine⟨d,j,?_⟩;unfold eE at h;rw[aK]at h;have:=aG.1 h.2 0<|List.mem_range.2 (aA.1 j).1;rw[xp j j]at this;unfold rQ at this;simp at this;exact this
def DN:∀(l:List Signed) (b:Int),0<=b/\b<=100000->(∀s∈l,eE s.set=true) ->
 0<=l.foldl (λb s=>if (s.set.type==4)=true then((s.set.data[0]?).getD Fb).m else b) b/\l.foldl (λb s=>if (s.set.type==4)=true then((s.set.data[0]?).getD Fb).m else b) b<=100000
 |[],b,j,_=>j
 |s::t,b,j,h=>by
  rw[List.foldl_cons];refine DN t _ ?_ λx J=>h x<|aZ _ J;split
  .rename_i G;obtain⟨d,H,D⟩:=Og<|h s (List.mem_cons_self ..);have I:s.set.type=4:=by simpa using G
   rw[H];rw[I]at D;unfold iA at D;simp[nO,within]at D;show 0<=d.m/\d.m<=100000
   omega
  .exact j
def NL(h:∀s∈l,eE s.set=true):0<=lu l/\lu l<=100000:=DN l 0 (by omega) h
def XE{j:List Bs}{i:Nat}(h:j[i]? =some n):∃G,G∈j/\AN y j i=⟨n,8,lu y.af,[⟨G,sQ y n,0⟩]⟩/\j[(i+1) % j.length]? =some G:=by
 have H:=(aA.1 h).1;have D:(i+1) % j.length<j.length:=Nat.mod_lt _ (by omega);refine⟨j[(i+1) % j.length],List.getElem_mem D,?_,ao D⟩;unfold AN;rw[h,ao D];rfl
def Uv{j:Bs}{aJ h:Int}(J:aR n=true)(N:aR j=true)(D:0<=aJ/\aJ<=100000)(h0:2<=h)(h1:h<=510)(G:h.tmod 2=0):eE ⟨n,8,aJ,[⟨j,h,0⟩]⟩=true:=by
 have K:nO 8=⟨2,2,510,0,0,true,false,true⟩:=rfl;unfold eE;simp only[J,K];have I:iA ⟨2,2,510,0,0,true,false,true⟩ ⟨j,h,0⟩=true:=by
  unfold iA;simp[within,si,N,h0,h1,G]
 have H:(List.range ([⟨j,h,0⟩]:List Datum).length).all (uN ⟨2,2,510,0,0,true,false,true⟩ [⟨j,h,0⟩])=true:=by
  show(List.range 1).all _=true
  simp[uN,rQ,I,List.range_succ]
 rw[H];simp[within,D.1,D.2]
def chZ(z:ax):ax:=⟨z.ag,wv (cJ z).af<|fX (cJ z)<|fU<|cJ z⟩
def Rr(y:ax)(j:List Bs):(fX y j).map cH.name=j:=by
 apply List.ext_getElem?;intro i;rw[bc];by_cases h:i<j.length
 .rw[zJ h,ao h];show some ((j[i]?).getD [])=_
  rw[ao h];rfl
 .rw[List.getElem?_eq_none<|by rw[lU];omega,List.getElem?_eq_none<|by omega];rfl
def zK(V:aW y=true)(X:∀s∈y.af,s.set.type<8){x:cH}(Z:x∈fX y (fU y)) :
 ∃n∈fU y,∃J∈fU y,x=⟨n,8,lu y.af,[⟨J,sQ y n,0⟩]⟩/\eE x=true:=by
 have N:=bt V;obtain⟨hA,Y⟩:=xN V;have G:∀n∈fU y,aR n=true:=λn H=>by
  obtain⟨s,I,rfl,_⟩:=(Y n).1 H;exact N.name s I
 obtain⟨i,K⟩:=cO Z;have U:i<(fU y).length:=by rw[<- lU y];exact(aA.1 K).1
 rw[zJ U]at K;obtain⟨n,H⟩:∃n,(fU y)[i]? =some n:=⟨_,ao U⟩
 obtain⟨J,D,T,_⟩:=XE (y:=y) H;have j:=aw H;obtain⟨h,W,e2,e3,e4,_⟩:=WY (λs I=>⟨(vj<|N.set s I).1,X s I⟩) n;cases K;refine⟨n,j,J,D,T,?_⟩;rw[T,W];exact Uv (G n j) (G J D) (NL N.set) (by omega) (by omega) (by rw[Int.tmod_eq_emod_of_nonneg<|by omega];omega)
def Ax(j:Ordered z):∀s∈(cJ z).af,s.set.type<8:=λs D=>by
 obtain⟨h1,G⟩:=gi.1 D;have:=vj<|j.set s h1;omega
def OT(I:aW z=true):RP (chZ z).af/\ ∀x,x∈(chZ z).af ↔ x∈(cJ z).af\/ ∃y∈fX (cJ z) (fU<|cJ z),x=⟨y,[]⟩:=by
 have D:=bt I;have j:=pZ I;have G:=tO D;obtain⟨J,K⟩:=xN j;refine wQ (cJ z).af _ G.rising.pw (Ax D) ?_ λy U=>?_
 .have:Asc<|(fX (cJ z)<|fU<|cJ z).map cH.name:=by rw[Rr];exact J
  exact List.pairwise_map.1 this
 .obtain⟨n,N,V,_,rfl,_⟩:=zK j (Ax D) U;obtain⟨s,T,H,_⟩:=(K n).1 N;exact⟨rfl,s,T,H⟩
def Zw(D:aW z=true):cJ (chZ z)=cJ z:=by
 have G:=bt D;obtain⟨h1,H⟩:=OT D;have I:(cJ<|chZ z).af=(cJ z).af:=by
  refine RP.ext (h1.filter _) (G.rising.pw.filter _) λx=>?_
  show x∈(cJ<|chZ z).af ↔ x∈(cJ z).af
  rw[gi,H x];constructor
  .rintro⟨h|⟨y,J,rfl⟩,j⟩
   .exact h
   .obtain⟨n,_,K,_,rfl,_⟩:=zK (pZ D) (Ax G) J;exact absurd rfl j
  .intro h;exact⟨.inl h,(gi.1 h).2⟩
 show(⟨z.ag,(cJ<|chZ z).af⟩:ax)=⟨z.ag,(cJ z).af⟩
 rw[I]
