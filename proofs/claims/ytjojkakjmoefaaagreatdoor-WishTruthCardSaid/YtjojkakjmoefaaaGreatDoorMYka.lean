/-
  Merged texts.
-/
import Derived.Test.YtjojkakjmoefaaaGreatDoorYkM
import Derived.Test.YtjojkakjmoefaaaGreatDoorMYa
set_option linter.all false
set_option maxHeartbeats 16000000
set_option maxRecDepth 100000
namespace NQ
open Go Go.RowKit
def XX{w:World}{O O' :Nat->Prop}{e:TypeId}{sz:Nat}{rows:List<|List D}{v:Value}{xs:List Value}(h:w.ownsRow 0 e sz v rows.length xs)(hr:∀r∈rows,r.length=sz/\ ∀d∈r,d.one=true)
 (T:∀i r j d,rows[i]? =some r->r[j]? =some d-> ∃u,xs[i*sz+j]? =some u/\Rep w O d u) (X:∀b,O' b->O b) (hv:∀b,home v=some b-> ¬O' b):Rep w O' (.slice sz rows) v:=by
 rcases h.2 with ⟨rfl,U⟩|⟨g,cap,cur,rfl,_,N,V,h5,h6,W⟩
 .have:rows=[]:=List.length_eq_zero_iff.1 U;subst this;exact .empty _ _ _
 .have K:g<w.heap.size:=(bP.1 N).1;refine .slice sz rows g 0 _ cap (λi j=>xs.getD (i*sz+j) Go.undef) rfl (hv g rfl) K V hr (λi r j d I J=>?_) λi r j d I J=>?_
  .obtain⟨u,G,_⟩:=T i r j d I J;have H:xs.getD (i*sz+j) Go.undef=u:=by rw[List.getD_eq_getElem?_getD,G];rfl
   rw[H,Nat.zero_add];simp only[World.cell?,N];rw[<- W,List.getElem?_take]at G;split at G
   .simpa using G
   .cases G
  .obtain⟨u,G,Z⟩:=T i r j d I J;have H:xs.getD (i*sz+j) Go.undef=u:=by rw[List.getD_eq_getElem?_getD,G];rfl
   rw[H];exact Z.mono (bx.less λb Y=>X b Y)
end NQ

namespace Go.Proofs.YtjojkakjmoefaaaGreatDoor
open NQ Go.RowKit Go.Lib
abbrev Kx(ag:Bs)(rows:List<|List D)(r:List D)(fl f2:Bool):List<|Nat×Blk:=[(56,.row 75 5 [r] f2),(100004,.box [.d<|.str ag,.own 90020]),(90020,.row 75 5 rows fl)]
def QY(ag:Bs)(rows:List<|List D)(i:Nat)(r:List D)(hi:i<=rows.length)(hS:rows.length<=100000)(fl K:Bool) :
 FnP cxW pv0 118 [.own 90020,aj i,.own 56] (Kx ag rows r fl K)
  (some (.own 90020,[(100004,.box [.d<|.str ag,.undef]),(90020,.row 75 5<|rows.take i++[r]++rows.drop i)])):=by
 refine⟨⟨_,Tryz.func118,by kernel_rfl,by kernel_rfl⟩,λO w σ vs hO hG X hZ Y xg J=>?_⟩;obtain⟨xs,o1,o2,o3,o4,o5⟩:=Y.blk 90020 _ rfl;obtain⟨ys,p1,p2,p3,p4,p5⟩:=Y.blk 56 _ rfl;obtain⟨zb,zc,zt,z1,z2,z3,z4,z5⟩:=Y.blk 100004 _ rfl;have l1:live (Kx ag rows r fl K) 90020:=aH.2 ⟨_,rfl⟩;have l2:live (Kx ag rows r fl K) 56:=aH.2 ⟨_,rfl⟩;have l3:live (Kx ag rows r fl K) 100004:=aH.2 ⟨_,rfl⟩;have v0:vs.getD 0 Go.undef=σ 90020:=by have:=J 0 _ rfl;generalize vs.getD 0 Go.undef=u at this;cases this;rfl
 have v1:vs.getD 1 Go.undef= .int .i64 i:=by have:=J 1 _ rfl;exact this.int
 have v2:vs.getD 2 Go.undef=σ 56:=by have:=J 2 _ rfl;generalize vs.getD 2 Go.undef=u at this;cases this;rfl
 have xh:vs= #[σ 90020,.int .i64 i,σ 56]:=by rw[Zi xg,v0,v1,v2]
 have hA:∀b,home (σ 90020)=some b->home (σ 56)≠some b:=λb h1 h2=>by
  have:=Y.inj 90020 56 b l1 l2 h1 h2;omega
 have H:home (σ 100004)=some zb:=by rw[z1];rfl
 have I:home (σ 90020)≠some zb:=λh=>by
  have:=Y.inj 90020 100004 zb l1 l3 h H;omega
 have W:zb<w.heap.size:=(bP.1 z3).1
 let O2:Nat->Prop:=λb=>(O b\/home (σ 90020)=some b)\/b=zb
 have kt:∀b,O2 b->NQ.Own O (live<|Kx ag rows r fl K) σ b:=λb G=>by
  rcases G with (G|G)|rfl
  .exact .inl G
  .exact .inr ⟨_,l1,G⟩
  .exact .inr ⟨_,l3,H⟩
 have hd:=XX (O' :=O2) p1 p4 p5 kt (λb G h=>by
  rcases h with (h|h)|rfl
  .exact hZ b h ⟨_,l2,G⟩
  .exact hA b h G
  .have:=Y.inj 56 100004 _ l2 l3 G H;omega)
 have N := QX rows i r hi hS O2 w (σ 90020) (σ 56) xs (fun b G => by
     rcases G with (G|G)|rfl
     .exact hO b G
     .exact(du.home<|Y.blk 90020 _ rfl).1 b G |>.2
     .exact W) hG (λg cells hg h=>by
     rcases h with (h|h)|rfl
     .exact(X g cells hg).1 h
     .exact(X g cells hg).2 ⟨_,l1,h⟩
     .exact(X _ cells hg).2 ⟨_,l3,H⟩) (λg hg=> .inl<|.inr hg) o1 o4 (λi r j d hi Z=>by
     obtain⟨u,hu,hd⟩:=o5 i r j d hi Z;exact⟨u,hu,hd.mono<|bx.less kt⟩) hd (λB off n c e=>by
     rcases p1.2 with ⟨_,h⟩|⟨g,cap,cur,e',_,h3,_⟩
     .cases h
     .rw[e']at e;cases e;exact⟨⟨cur,_,h3⟩,λh=>hA _ h<|by rw[e'];rfl⟩)
 rw[xh];refine N.mono ?_;rintro en w' ⟨v',ks,rfl,q1,q2,q3,q4,q5,q6,q7,q8,q9⟩;refine⟨⟨q1,q2,q3,q4,λb G=>?_⟩,?_⟩
 .by_cases V:b<w.heap.size
  .exact q5 b V λe=>G<|.inl ⟨90020,l1,e⟩
  .exact absurd (.inr<|by omega) G
 let σ' :Nat->Value:=λs=>if s=90020 then v' else σ s
 have e1:σ' 90020=v' :=if_pos rfl;have e3:σ' 100004=σ 100004:=if_neg (by omega);obtain⟨h',T⟩:∃h',h' =[(100004,Blk.box [.d<|.str ag,.undef]),(90020,Blk.row 75 5<|rows.take i++[r]++rows.drop i)]:=⟨_,rfl⟩
 rw[<- T];have kO:find h' 100004=some (Blk.box [.d<|.str ag,.undef]):=by rw[T];rfl
 have kA:find h' 90020=some (Blk.row 75 5<|rows.take i++[r]++rows.drop i):=by rw[T];rfl
 have kB:∀s b,find h' s=some b->s=100004\/s=90020:=λs b G=>by
  have:=gj G;rw[T]at this;simp only[List.mem_cons,Prod.mk.injEq,List.not_mem_nil,or_false]at this;rcases this with h|h
  .exact .inl h.1
  .exact .inr h.1
 have U :∀s,live h' s->s=100004\/s=90020:=λs hs=>by
  obtain⟨b,G⟩:=aH.1 hs;exact kB s b G
 have hk:bx w w' O2<|NQ.Own O (live h') σ':=by
  refine⟨q4,λb G V=>q5 b V λe=>G<|.inl<|.inr e,λb G V ho=>?_⟩;rcases ho with ho|⟨s,hs,e⟩
  .exact G<|.inl<|.inl ho
  .rcases U s hs with rfl|rfl
   .rw[e3,H]at e;cases e;exact G<|.inr rfl
   .rw[e1]at e;rcases q6 b e with e|e
    .exact G<|.inl<|.inr e
    .omega
 refine⟨v',σ',rfl,⟨λs b G=>?_,λs s' b h1 h2 f1 K=>?_⟩,λs hs kX=>?_,?_⟩
 .rcases kB s b G with rfl|rfl
  .rw[kO]at G;cases G;refine⟨zb,zc,zt,by rw[e3,z1],.inl ⟨100004,l3,H⟩,(q5 zb W I).trans z3,z4,λj c Z=>?_⟩;rcases j with _|_|j
   .cases Z;refine⟨.inl rfl,?_⟩;have hz:=(z5 0 _ rfl).2;cases hz with|d _ _ hz=>exact .d _ _<|hz.gP rfl
   .cases Z;exact⟨.inr rfl,.undef _⟩
   .simp at Z
  .rw[kA]at G;cases G;refine⟨ks,by rw[e1];exact q7,λb G=>?_,⟨by decide,λe=>by cases e⟩,q8,λa q j d ha Z=>?_⟩
   .rw[e1]at G;rcases q6 b G with e|e
    .exact .inl ⟨90020,l1,e⟩
    .exact .inr e
   .obtain⟨z,hz,hd⟩:=q9 a q j d ha Z;exact⟨z,hz,hd.mono hk⟩
 .rcases U s h1 with rfl|rfl<;>rcases U s' h2 with rfl|rfl
  .rfl
  .rw[e3,H]at f1;cases f1;rw[e1]at K;rcases q6 _ K with e|e
   .exact absurd e I
   .omega
  .rw[e3,H]at K;cases K;rw[e1]at f1;rcases q6 _ f1 with e|e
   .exact absurd e I
   .omega
  .rfl
 .rcases U s kX with rfl|rfl
  .exact e3
  .simp[cV]at hs
 .have:=aC.own (w:=w') (O:=O) (σ:=σ') 90020<|aH.2 ⟨_,kA⟩;rw[e1]at this;exact this
end Go.Proofs.YtjojkakjmoefaaaGreatDoor

namespace NQ
open Go
def App(X:St->Prop)(s:St):Prop:=X s
def wm{α:Type}{G:Prop}{P:α->Prop}{canon:α->St}{X:St->Prop}(h1:(∀a,P a->App X (canon a))->G)(j:∀a,P a->App X (canon a)):G:=h1 j
def pD{cx:Cx}{fre:List Nat}{st j:St}{X:St->Prop}(D:aq cx fre st j)(h:App X j):∃st',aq cx fre st st' /\X st' :=⟨j,D,h⟩
end NQ

namespace Go.Proofs.YtjojkakjmoefaaaGreatDoor
open NQ Go.RowKit
def Rj(l:List Signed)(x:Signed)(h:Nat):Bool:=match l[h]? with|some y=>decide<|zR y x<0|none=>false
def xt(l:List Signed)(x:Signed)(h:Nat):Bool:=match l[h]? with|some y=>zR y x==0|none=>false
def lG(l:List Signed)(x:Signed):Nat->Nat->Nat->Nat
 |0,i,_=>i
 |f+1,i,j=>if i<j then(if Rj l x ((i+j) / 2)=true then lG l x f ((i+j) / 2+1) j else lG l x f i<|(i+j) / 2)else i
def bsW(l:List Signed)(x:Signed):Nat:=lG l x (l.length+1) 0 l.length
def uG(l:List Signed)(x:Signed):∀(f D i j:Nat),j-i<=f->j-i<=D ->lG l x f i j=lG l x D i j
 |0,0,_,_,_,_=>rfl
 |0,D +1,i,j,h,_=>by rw[lG,lG,if_neg<|by omega]
 |f+1,0,i,j,_,h=>by rw[lG,lG,if_neg<|by omega]
 |f+1,D +1,i,j,h,h' =>by
  rw[lG,lG];split
  .split
   .exact uG l x f D _ _ (by omega) (by omega)
   .exact uG l x f D _ _ (by omega) (by omega)
  .rfl
def Ta(l:List Signed)(x:Signed){i j:Nat}(f:Nat)(D:j-i<=f)(h:i<j):lG l x f i j=if Rj l x ((i+j) / 2)=true then lG l x f ((i+j) / 2+1) j else lG l x f i<|(i+j) / 2:=by
 obtain⟨f,rfl⟩:∃g,f=g+1:=⟨f-1,by omega⟩
 rw[lG,if_pos h];split
 .exact uG l x _ _ _ _ (by omega) (by omega)
 .exact uG l x _ _ _ _ (by omega) (by omega)
def VZ(l:List Signed)(x:Signed)(i f:Nat):lG l x f i i=i:=by
 cases f with
 |zero=>rfl
 |succ f=>rw[lG,if_neg<|by omega]
def Fi(l:List Signed)(x:Signed):∀(f i j:Nat),i<=j->lG l x f i j<=j
 |0,i,j,h=>h
 |f+1,i,j,h=>by
  rw[lG];split
  .split
   .exact Fi l x f _ _ (by omega)
   .exact Nat.le_trans (Fi l x f _ _<|by omega) (by omega)
  .exact h
def Tb(l:List Signed)(x:Signed):bsW l x<=l.length:=Fi l x _ _ _<|Nat.zero_le _
def fc(z:ax)(s:Bs)(kind aJ:Int)(data:List Datum):Signed:=⟨⟨s,kind,if (wfR z s kind).2=true then(wfR z s kind).1.aJ else aJ,data⟩,[]⟩
def bN(z:ax)(s:Bs)(kind aJ:Int)(data:List Datum):ax :=
 ⟨z.ag,if xt z.af (fc z s kind aJ data) (bsW z.af<|fc z s kind aJ data)=true then z.af.set (bsW z.af<|fc z s kind aJ data) (fc z s kind aJ data)
  else z.af.take (bsW z.af<|fc z s kind aJ data)++[fc z s kind aJ data]++z.af.drop (bsW z.af<|fc z s kind aJ data)⟩
def ab2(l:List Signed)(x:Signed)(T:l.length<=100000) :
 NQ.Fn cx 116 [.slice 5<|l.map an,.agg<|an x,.fn 117 [] []] (.tuple [aj<|bsW l x,.d<|.bool<|xt l x<|bsW l x]) []:=by
 refine bL bf mixed Tryz.func116 ?_;refine⟨Nat×Nat,λq=>⟨[(0,.d<|.slice 5<|l.map an),(2,.d<|.fn 117 [] []),(4,.ptr 4 0),(8,aj ((l.map an).length:Int)),(9,aj q.1),(10,aj q.2)],[(4,.box<|(an x).map .d)]⟩,
  λq=>q.1<=q.2/\q.2<=l.length/\lG l x (l.length+1) q.1 q.2=bsW l x,λq=>q.2-q.1,⟨(0,l.length),⟨Nat.zero_le _,Nat.le_refl _,rfl⟩,aI.keep ⟨ae,ae,ae,ae,ae,⟨(by show AV.d (D.int _ _)=_;simp),rfl⟩,trivial⟩ ⟨ae,trivial⟩⟩,λ⟨i,j⟩ ⟨N,K,G⟩=>?_⟩
 dsimp only at N K G ⊢;conv=>whnf
 refine aD ?_ ?_<;>intro h
 .have J:i<j:=by simp at h;omega
  rw[Ta l x _ (by omega) J]at G
  (refine bJ<|M ?_)
  rw[DQ<|by omega];obtain⟨s,I⟩:∃s,l[(i+j) / 2]? =some s:=⟨_,ao<|by omega⟩
  have H:Rj l x ((i+j) / 2)=decide (zR s x<0):=by unfold Rj;rw[I]
  rw[H]at G;refine⟨aB _,an s,aL I,M ?_⟩
  (refine⟨_,_,DL s x,M ?_⟩)
  refine aD ?_ ?_<;>intro h
  .rw[if_pos h]at G;exact⟨((i+j) / 2+1,j),⟨by dsimp only;omega,K,G⟩,by dsimp only;omega,aI.keep⟩
  .rw[if_neg<|by rw[h];decide]at G;exact⟨(i,(i+j) / 2),⟨by dsimp only;omega,by dsimp only;omega,G⟩,by dsimp only;omega,aI.keep⟩
 .obtain rfl:i=j:=by simp at h;omega
  rw[VZ]at G;clear h;rw[<- G]
  (refine bJ<|M ?_)
  refine aD ?_ ?_<;>intro h
  .have H:i<l.length:=by simp at h;omega
   obtain⟨s,I⟩:∃s,l[i]? =some s:=⟨_,ao H⟩
   refine⟨aB _,an s,aL I,M ?_⟩
   (refine⟨_,_,DL s x,M ?_⟩)
   refine ak rfl ?_;show AV.tuple [AV.d<|.int .i64 i,AV.d<|.bool _]=_
   simp[xt,I]
  .refine ak rfl ?_;show AV.tuple [AV.d<|.int .i64 i,AV.d<|.bool _]=_
   have:l[i]? =none:=by simp at h;simp;omega
   simp[xt,this]
noncomputable def cxB:Cx:={cx with chg:=ja [(60,9),(118,9)]}
def tyB:bC cxB:=bf
def abl:cxB.P.follows .mixedOrders=true:=mixed
abbrev gV(z:ax):List<|Nat×Blk:=[(100004,.box [.d<|.str z.ag,.own 90020]),(90020,wc z.af)]
def Sz(z:ax)(s:Bs)(kind:Int)(J:z.af.length<=100000):FnP cxW pv0 60 [.agg [.d<|.str z.ag,.own 90020],.d<|.str s,aj kind] (gV z)<|some (.tuple [.agg<|(bV (wfR z s kind).1).map .d,.d<|.bool (wfR z s kind).2],gV z):=by
 refine bq [] (fun|_=>[]) tyW wG Tryz.func60 ?_;conv=>whnf
 (refine⟨_,Ct z.af (isF s kind) _ _ J λx _=>Aj x s kind,rfl,M ?_⟩)
 have D:=nu (isF s kind) z.af;have j:wfR z s kind=match z.af.find? (isF s kind)with|some x=>(x.set,true)|none=>(wR,false):=rfl
 cases H:z.af.findIdx? (isF s kind)with
 |none =>
  rw[H]at D;rw[<- D]at j;conv=>whnf
  exact ck rfl (by rw[j];rfl) (by rw[j];rfl)
 |some k =>
  rw[H]at D;obtain⟨G,_⟩:=List.findIdx?_eq_some_iff_getElem.1 H;obtain⟨x,I⟩:∃x,z.af[k]? =some x:=⟨_,ao G⟩
  rw[<- D]at j;simp only[I]at j;conv=>whnf
  refine⟨aB k,by(show k<_;rw[au];exact G),M ?_⟩
  refine⟨an x,aL I,M ?_⟩
  exact ck rfl (by rw[j];rfl) (by rw[j];rfl)
def fV(z:ax)(s:Bs)(kind aJ:Int)(data:List Datum)(U:z.af.length<=100000)(hd:data.length<=100000) :
 FnP cxB pv0 114 [.ptr 100004 0,.d<|.ptr [.str s],.d<|.ptr [.int .i64 kind],.d<|.ptr [.int .i64 aJ],.d<|.ptr [.slice 3<|data.map aS]] (gV z) (some (.tuple [],gV<|bN z s kind aJ data)):=by
 refine bq [] (fun|1=>[33333]|2=>[55555]|4=>[55555]|7=>[33333]|_=>[]) tyB abl Tryz.func114 ?_;conv=>whnf
 (refine bJ<|M ?_)
 (refine⟨_,_,ni (data.map aS)<|by simpa using hd,M ?_⟩)
 (refine cn<|M ?_)
 have Z:=bX (cx' :=cxB) rfl rfl<|Sz z s kind U;apply wm (α:=Unit) (P:=λ_=>True) (canon:=λ_=>⟨[(0,.ptr 100004 0),(1,.d<|.ptr [.str s]),(2,.d<|.ptr [.int .i64 kind]),(3,.d<|.ptr [.int .i64 aJ]),(4,.d<|.ptr [.slice 3<|data.map aS]),(6,.ptr 6 0),(7,.ptr 7 0),(8,.d<|.bool (wfR z s kind).2)],
  [(100004,.box [.d<|.str z.ag,.own 90020]),(90020,wc z.af),(6,.box [.d<|.str s,aj kind,aj aJ,.d<|.slice 3<|data.map aS,.nil 6]),(7,.box<|(bV (wfR z s kind).1).map .d)]⟩)
 .intro j
  repeat' (first
   |(refine⟨[6,7],_,Z,⟨rfl,rfl,rfl⟩,?_⟩;(conv=>whnf);refine aN ?_;(conv=>whnf))
   |exact pD (aq.keep)<|j () trivial
   |(refine And.intro (by kernel_rfl)<|M ?_)
   |(refine And.intro ?_ ?_<;>(conv=>whnf)))
 rintro _ _;unfold App;conv=>whnf
 apply wm (α:=Unit) (P:=λ_=>True) (canon:=λ_=>⟨[(0,.ptr 100004 0),(6,.ptr 6 0)],
  [(100004,.box [.d<|.str z.ag,.own 90020]),(90020,wc z.af),(6,.box [.d<|.str s,aj kind,.d<|.int .i64 (fc z s kind aJ data).set.aJ,.d<|.slice 3<|data.map aS,.nil 6])]⟩)
 .intro j;have N:(fc z s kind aJ data).set.aJ=if (wfR z s kind).2=true then(wfR z s kind).1.aJ else aJ:=rfl
  refine aD ?_ ?_<;>intro h1
  .rw[if_pos h1]at N;rw[N]at j;exact pD (aq.keep)<|j () trivial
  .rw[if_neg<|by rw[h1];decide]at N;rw[N]at j;exact pD (aq.keep)<|j () trivial
 rintro _ _;unfold App;conv=>whnf
 have I:bN z s kind aJ data=⟨z.ag,if xt z.af (fc z s kind aJ data) (bsW z.af<|fc z s kind aJ data)=true then z.af.set (bsW z.af<|fc z s kind aJ data) (fc z s kind aJ data)
  else z.af.take (bsW z.af<|fc z s kind aJ data)++[fc z s kind aJ data]++z.af.drop (bsW z.af<|fc z s kind aJ data)⟩:=rfl
 have H:an (fc z s kind aJ data)=[.str s,.int .i64 kind,.int .i64 (fc z s kind aJ data).set.aJ,.slice 3<|data.map aS,.slice 6 []]:=rfl;have J:=Tb z.af<|fc z s kind aJ data;have T:=ab2 z.af (fc z s kind aJ data) U;rw[H]at T;generalize fc z s kind aJ data=X at I H J T ⊢;rw[I]
 (refine bJ<|M ?_)
 (refine⟨_,T,by kernel_rfl,M ?_⟩)
 refine aD ?_ ?_<;>intro h1
 .have K:bsW z.af X<z.af.length:=by
   unfold xt at h1;split at h1
   .rename_i y V;exact(aA.1 V).1
   .cases h1
  rw[if_pos rfl]
  (refine bJ<|M ?_)
  refine⟨aB _,by(show bsW z.af X<_;rw[au];exact K),M ?_⟩
  obtain⟨y,V⟩:∃y,z.af[bsW z.af X]? =some y:=⟨_,ao K⟩
  refine⟨an y,aL V,M ?_⟩
  have G:(z.af.set (bsW z.af X) X).map an=(z.af.map an).set (bsW z.af X) (an X):=List.map_set;rw[H]at G;exact .inl ⟨[],aq.keep trivial ⟨⟨rfl,rfl⟩,⟨congrArg (λr=>some<|Blk.row 75 5 r) G.symm,rfl⟩,trivial⟩,rfl⟩
 .rw[if_neg<|by decide];have W:=λfl Y=>bX (cx' :=cxB) rfl rfl<|QY z.ag (z.af.map an) (bsW z.af X) (an X) (by simpa using J) (by simpa using U) fl Y
  rw[H]at W
  (refine cn<|M ?_)
  repeat' (first
   |(refine⟨[6],_,W _ _,⟨rfl,rfl,rfl⟩,?_⟩;(conv=>whnf);refine aN ?_;(conv=>whnf))
   |(refine And.intro (by kernel_rfl)<|M ?_)
   |(refine And.intro ?_ ?_<;>(conv=>whnf)))
  have D:(z.af.take (bsW z.af X)++[X]++z.af.drop (bsW z.af X)).map an=(z.af.map an).take (bsW z.af X)++[an X]++(z.af.map an).drop (bsW z.af X):=by
   rw[List.map_append,List.map_append,List.map_take,List.map_drop];rfl
  rw[H]at D
  all_goals exact .inl ⟨[],aq.keep trivial ⟨⟨rfl,rfl⟩,⟨congrArg (λr=>some<|Blk.row 75 5 r) D.symm,rfl⟩,trivial⟩,rfl⟩
end Go.Proofs.YtjojkakjmoefaaaGreatDoor

namespace NQ
open Go Go.RowKit
def ZL{cx:Cx}{fre:List Nat}{st:St}(s:Nat)(cs D :List AV)(T:find st.heap s=some (.box cs))(N:∀(j:Nat) c,D[j]? =some c->c= .undef\/cs[j]? =some c)(U:D.length=cs.length:=by rfl):aq cx fre st ⟨st.aY,(s,.box D)::st.heap⟩:=by
 refine(aI.Sj s (.box cs) (.box D) T λw F O L σ h=>?_).toP;obtain⟨b,cur,t,h1,H,I,J,K⟩:=h;refine⟨b,cur,t,h1,H,I,J.trans U.symm,λj c G=>?_⟩;rcases N j c G with rfl|G
 .exact⟨.inr rfl,.undef _⟩
 .exact K j c G
end NQ

namespace Go.Proofs.YtjojkakjmoefaaaGreatDoor
open NQ Go.RowKit
def UU(s:cH)(x:bG):NQ.Fn cx 83 [.agg<|bV s,.ptr<|bw x] (.d<|.bool<|decide (s.type=8)|| !(bD s.name x.name).1) []:=by
 refine bL bf mixed Tryz.func83 ?_
 repeat' (first|(refine⟨_,_,pV s.name x.name,M ?_⟩)|(refine aD ?_ ?_<;>intro h)|fail)
 all_goals (refine ak rfl ?_;show AV.d (D.bool _)=AV.d (D.bool _);congr 2;(try simp_all))
def UW(s:cH)(x:bG):NQ.Fn cx 85 [.agg<|bV s,.ptr<|bw x] (.d<|.bool (bD s.name x.name).1) []:=by
 refine bL bf mixed Tryz.func85 ?_
 (refine⟨_,_,pV s.name x.name,M ?_⟩)
 exact ak rfl rfl
def OC(s:Signed)(x:bG):NQ.Fn cx 135 [.agg<|an s,.ptr [.fn 83 [] [.ptr<|bw x]]] (.d<|.bool<|decide (s.set.type=8)|| !(bD s.set.name x.name).1) []:=by
 refine bL bf mixed Tryz.func135 ?_
 (refine⟨_,_,UU s.set x,M ?_⟩)
 exact ak rfl rfl
def OD(s:Signed)(x:bG):NQ.Fn cx 135 [.agg<|an s,.ptr [.fn 85 [] [.ptr<|bw x]]] (.d<|.bool (bD s.set.name x.name).1) []:=by
 refine bL bf mixed Tryz.func135 ?_
 (refine⟨_,_,UW s.set x,M ?_⟩)
 exact ak rfl rfl
def ZR(l:List Signed)(p:Signed->Bool)(x:D)(Z:l.length<=100000)(X:∀s∈l,NQ.Fn cx 135 [.agg<|an s,x] (.d<|.bool<|p s) []) :
 NQ.Fn cx 110 [.slice 5<|l.map an,.fn 135 [] [x]] (aj (match l.findIdx? p with|some k=>(k:Int)|none=> -1)) []:=by
 refine bL bf mixed Tryz.func110 ?_;refine⟨Nat,λk=>⟨[(0,.d<|.slice 5<|l.map an),(1,.d<|.fn 135 [] [x]),(7,aj ((l.map an).length:Int)),(8,aj k)],[]⟩,λk=>k<=l.length/\ ∀j y,j<k->l[j]? =some y->p y=false,λk=>l.length-k,
  ⟨0,⟨by omega,λj y h=>by omega⟩,aI.keep⟩,λk U=>?_⟩
 obtain⟨U,G⟩:=U;conv=>whnf
 refine aD ?_ ?_<;>intro h1
 .have I:k<l.length:=by simp at h1;omega
  obtain⟨s,J⟩:∃s,l[k]? =some s:=⟨_,ao I⟩
  refine⟨aB k,an s,aL J,M ?_⟩
  (refine⟨_,_,X s<|aw J,M ?_⟩)
  refine aD ?_ ?_<;>intro N
  .refine ak rfl ?_;have:l.findIdx? p=some k:=by
    rw[List.findIdx?_eq_some_iff_getElem];obtain⟨V,W⟩:=aA.1 J;refine⟨V,by rw[W];exact N,λj H=>?_⟩;have:=G j (l[j]) H (ao<|by omega);rw[this];decide
   rw[this];rfl
  .refine⟨k+1,⟨I,λj y H K=>?_⟩,by(show l.length-(k+1)<l.length-k;omega),aI.keep⟩;rcases Nat.lt_succ_iff_lt_or_eq.1 H with H|rfl
   .exact G j y H K
   .rw[J]at K;cases K;exact N
 .obtain rfl:k=l.length:=by simp at h1;omega
  refine ak rfl ?_;have:l.findIdx? p=none:=by
   rw[List.findIdx?_eq_none_iff];intro x Y;obtain⟨i,T⟩:=cO Y;exact G i x (aA.1 T).1 T
  rw[this];rfl
noncomputable def cxX:Cx:={cx with chg:=ja [(134,9)]}
def tyX:bC cxX:=bf
def abr:cxX.P.follows .mixedOrders=true:=mixed
noncomputable def Ws:Cx:={cx with bld:=[777001]}
def acv:bC Ws:=bf
def aai:Ws.P.follows .mixedOrders=true:=mixed
def Ns(z:ax)(p:Signed->Bool)(F:FuncId)(y:bG)(hn:z.af.length<=100000)(hf:∀s,NQ.Fn cx 135 [.agg<|an s,.ptr [.fn F [] [.ptr<|bw y]]] (.d<|.bool<|p s) []) :
 FnP cxW pv0 134 [.own 90020,.fn 135 [] [.d<|.ptr [.fn F [] [.ptr<|bw y]]]] (gV z)
  (some (.own 90020,[(100004,.box [.d<|.str z.ag,.undef]),(90020,wc (z.af.filter λs=> !p s))])):=by
 refine bX (cx:=Ws) rfl rfl ?_;refine bq [] (fun|11=>[33333]|12=>[33333]|_=>[]) acv aai Tryz.func134 ?_;conv=>whnf
 (refine⟨_,ZR z.af p (.ptr [.fn F [] [.ptr<|bw y]]) hn λs _=>hf s,by kernel_rfl,M ?_⟩)
 cases hi:z.af.findIdx? p with
 |none =>
  have N:(z.af.filter λs=> !p s)=z.af:=by
   rw[List.filter_eq_self];intro s J;have:=List.findIdx?_eq_none_iff.1 hi s J;rw[this];rfl
  rw[N];conv=>whnf
  refine iu (ZL 100004 [.d<|.str z.ag,.own 90020] [.d<|.str z.ag,.undef] rfl λj c h=>?_) rfl rfl rfl;rcases j with _|_|j
  .exact .inr h
  .cases h;exact .inl rfl
  .simp at h
 |some k =>
  obtain⟨hk,xa,T⟩:=List.findIdx?_eq_some_iff_getElem.1 hi;have h1:((k:Int)== -1)=false:=by simp
  rw[show((match (some k:Option Nat)with|some k=>(k:Int)|none=> -1)== -1)=false from h1];conv=>whnf
  have xf:(z.af.take<|k+1).filter (λs=> !p s)=z.af.take k:=by
   rw[List.take_add_one,ao hk,List.filter_append];have e1:(z.af.take k).filter (λs=> !p s)=z.af.take k:=by
    rw[List.filter_eq_self];intro s J;obtain⟨j,I⟩:=cO J;rw[List.getElem?_take]at I;split at I
    .rename_i kS;obtain⟨g1,g2⟩:=aA.1 I;have:=T j kS;rw[g2]at this;simpa using this
    .cases I
   rw[e1];simp[xa]
  refine⟨Nat×Nat×List Signed,λq=>⟨[(0,.own 90020),(1,.fn 135 [] [.d<|.ptr [.fn F [] [.ptr<|bw y]]]),(5,aj q.1),(6,aj q.2.1)],[(100004,.box [.d<|.str z.ag,.own 90020]),(90020,wc q.2.2)]⟩,
   λq=>q.1<q.2.1/\q.2.1<=z.af.length/\q.2.2.length=z.af.length/\q.2.2.take q.1=(z.af.take q.2.1).filter (λs=> !p s)/\q.2.2.drop q.2.1=z.af.drop q.2.1,λq=>z.af.length-q.2.1,
   ⟨(k,k+1,z.af),⟨by dsimp only;omega,hk,rfl,xf.symm,rfl⟩,aq.keep⟩,?_⟩
  rintro⟨i,j,R⟩ ⟨Z,I,G,K,X⟩;dsimp only at Z I G K X;conv=>whnf
  refine aD ?_ ?_<;>intro h2
  .have H:j<z.af.length:=by simp at h2;omega
   obtain⟨s,J⟩:∃s,z.af[j]? =some s:=⟨_,ao H⟩
   have Y:R[j]? =some s:=by
    have:=congrArg (λl=>l[0]?) X;simpa [List.getElem?_drop,J] using this
   have W:(z.af.take<|j+1).filter (λs=> !p s)=(z.af.take j).filter (λs=> !p s)++(if p s=true then[]else[s]):=by
    rw[cj J,List.filter_append];cases hp:p s<;>simp[hp]
   have U:R.drop (j+1)=z.af.drop (j+1):=by
    rw[<- List.drop_drop, <- List.drop_drop,X]
   refine⟨aB j,by(show j<_;rw[au,G];exact H),M ?_⟩
   refine⟨an s,aL Y,M ?_⟩
   (refine⟨_,_,hf s,M ?_⟩)
   refine aD ?_ ?_<;>intro h3
   .have hp:p s=false:=by simpa using h3
    refine⟨aB i,by(show i<_;rw[au,G];omega),M ?_⟩
    obtain⟨y,hy⟩:∃y,R[i]? =some y:=⟨_,ao<|by omega⟩
    refine⟨an y,aL hy,M ?_⟩
    refine⟨(i+1,j+1,R.set i s),⟨by dsimp only;omega,H,by(show(R.set i s).length=_;rw[List.length_set,G]),?_,?_⟩,by(show z.af.length-(j+1)<z.af.length-j;omega),aq.keep ⟨ae,ae,⟨bj (k:=i)<|by omega,rfl⟩,⟨bj (k:=j)<|by omega,rfl⟩,trivial⟩ ⟨ae,⟨congrArg (λr=>some<|Blk.row 75 5 r) (List.map_set (f:=an) (l:=R) (i:=i) (a:=s)).symm,rfl⟩,trivial⟩⟩
    .show(R.set i s).take (i+1)=_
     rw[W,if_neg<|by rw[hp];decide, <- K,List.take_add_one,List.getElem?_set_self<|by omega,List.take_set_of_le<|Nat.le_refl _];rfl
    .show(R.set i s).drop (j+1)=_
     rw[List.drop_set_of_lt<|by omega,U]
   .have hp:p s=true:=by simpa using h3
    refine⟨(i,j+1,R),⟨by dsimp only;omega,H,G,?_,U⟩,by(show z.af.length-(j+1)<z.af.length-j;omega),aq.keep ⟨ae,ae,ae,⟨bj (k:=j)<|by omega,rfl⟩,trivial⟩⟩;show R.take i=_
    rw[W,if_pos hp,List.append_nil];exact K
  .obtain rfl:j=z.af.length:=by simp at h2;omega
   rw[List.take_length]at K;refine⟨aB i,by(show i<_;rw[au,G];omega),M ?_⟩
   refine⟨by(show i<_;rw[au,G];omega),M ?_⟩
   refine⟨aB i,by(show i<_;rw[List.length_append,List.length_take,List.length_replicate,au,G];omega),M ?_⟩
   have V:∀y:List D,((R.map an).take i++List.replicate ((R.map an).length-i) y).take i=(z.af.filter λs=> !p s).map an:=λy=>by
    rw[List.take_append_of_le_length<|by rw[List.length_take,au,G];omega,List.take_take,Nat.min_self, <- List.map_take,K]
   refine iu (aq.keep (sl:=[(4,.own 90020)]) (h:=[(100004,.box [.d<|.str z.ag,.undef]),(90020,wc (z.af.filter λs=> !p s))]) (by repeat' (first|exact trivial|refine⟨⟨rfl,rfl⟩,?_⟩)) ⟨⟨rfl,rfl⟩,⟨congrArg (λr=>some<|Blk.row 75 5 r)<|V _,rfl⟩,trivial⟩) rfl rfl rfl
def Ak(z:ax)(p:Signed->Bool)(F:FuncId)(y:bG)(G:z.af.length<=100000)(D:∀s,NQ.Fn cx 135 [.agg<|an s,.ptr [.fn F [] [.ptr<|bw y]]] (.d<|.bool<|p s) []) :
 FnP cxX pv0 133 [.ptr 100004 0,.d<|.ptr [.fn F [] [.ptr<|bw y]]] (gV z) (some (.tuple [],gV ⟨z.ag,z.af.filter λs=> !p s⟩)):=by
 refine bq [] (fun|0=>[33333]|_=>[]) tyX abr Tryz.func133 ?_;conv=>whnf
 have j:=bX (cx' :=cxX) rfl rfl<|Ns z p F y G D;refine⟨[],_,j,⟨rfl,rfl,rfl⟩,M ?_⟩
 refine aN<|M ?_
 exact .inl ⟨[],aq.keep,rfl⟩
def Qt(l:List Signed)(D:l.length<=100000):FnP cxW pv0 131 [.d<|.slice 5<|l.map an] []<|some (.own 90020,[(90020,wc l)]):=by
 refine bq [] (fun|_=>[]) tyW wG Tryz.func131 ?_;conv=>whnf
 refine⟨λh=>?_,?_⟩
 .have j:l=[]:=by
   have:=List.isEmpty_iff.1 h;simpa using this
  subst j;conv=>whnf
  exact iu (aq.kz 2 90020 5 75 5 rfl rfl<|by decide) rfl rfl rfl
 .conv=>whnf
  refine⟨by(show 0+(l.map an).length<=_;rw[au];omega),by(show(0+(l.map an).length)*80<=_;rw[au];omega),M ?_⟩
  exact iu (aq.name 5 90020 rfl rfl) rfl rfl rfl
noncomputable def JR:Cx:={cx with chg:=ja [(131,9)]}
def acs:bC JR:=bf
def aag:JR.P.follows .mixedOrders=true:=mixed
def lZ(z:ax)(N:z.af.length<=100000)(T:∀s∈z.af,s.set.data.length<=100000/\s.sigs.length<=100000) :
 FnP JR pv0 81 [.agg<|(aV z).map .d] [] (some (.agg [.d<|.str z.ag,.own 90020],[(90020,wc z.af)])):=by
 refine bq [] (fun|1=>[33333]|6=>[55555]|_=>[]) acs aag Tryz.func81 ?_;conv=>whnf
 have K:=bX (cx' :=JR) rfl rfl<|Qt z.af N;refine⟨[1,2],_,K,⟨rfl,rfl,rfl⟩,M ?_⟩
 refine aN<|M ?_
 refine⟨Nat,λk=>⟨[(1,.ptr 1 0),(2,.ptr 2 0),(10,aj ((z.af.map an).length:Int)),(11,aj k)],[(1,.box [.d<|.str z.ag,.own 90020]),(2,.box [.d<|.str [],.nil 5]),(90020,wc z.af)]⟩,
  λk=>k<=z.af.length,λk=>z.af.length-k,⟨0,Nat.zero_le _,aq.keep⟩,λk U=>M ?_⟩
 refine aD ?_ ?_<;>intro h1
 .have D:k<z.af.length:=by simp at h1;omega
  obtain⟨s,G⟩:∃s,z.af[k]? =some s:=⟨_,ao D⟩
  have H:=T s<|aw G;have j:(z.af.map an).set k (an s)=z.af.map an:=by
   rw[<- List.map_set]
   congr 1
   obtain⟨I,J⟩:=aA.1 G;rw[<- J];exact List.set_getElem_self I
  (refine bJ<|M ?_)
  repeat' (first
   |(refine⟨aB k,by(show k<_;rw[au];exact D),M ?_⟩)
   |(refine⟨an s,aL G,M ?_⟩)
   |(refine⟨_,_,ni (s.set.data.map aS)<|by simpa using H.1,M ?_⟩))
  refine⟨_,aq.keep (sl:=[(1,.ptr 1 0),(2,.ptr 2 0),(3,aj k),(10,aj ((z.af.map an).length:Int)),(11,aj k)]) (h:=[(1,.box [.d<|.str z.ag,.own 90020]),(2,.box [.d<|.str [],.nil 5]),(90020,wc z.af)]) (by repeat' (first|exact trivial|refine⟨⟨rfl,rfl⟩,?_⟩)) ⟨⟨rfl,rfl⟩,⟨rfl,rfl⟩,⟨congrArg (λr=>some<|Blk.row 75 5 r) j,rfl⟩,trivial⟩,?_⟩;conv=>whnf
  (refine bJ<|M ?_)
  repeat' (first
   |(refine⟨aB k,by(show k<_;rw[au];exact D),M ?_⟩)
   |(refine⟨an s,aL G,M ?_⟩)
   |(refine⟨_,_,tQ (s.sigs.map oJ)<|by simpa using H.2,M ?_⟩))
  exact⟨k+1,D,by(show z.af.length-(k+1)<z.af.length-k;omega),aq.keep ⟨ae,ae,ae,⟨bj (k:=k)<|by omega,rfl⟩,trivial⟩ ⟨ae,ae,⟨congrArg (λr=>some<|Blk.row 75 5 r) j,rfl⟩,trivial⟩⟩
 .exact ck rfl rfl rfl
def addrAt(w:aQ)(n:Int):Int:=match w.ar[n.toNat]? with|some h=>h.addr|none=>0
def oc(w:aQ)(aJ:Int)(cut:Bs)(z:ax)(n:Int):ax:=if (bD (nameAt w n) cut).1=true then bN z (nameAt w n) 1 aJ [⟨[],addrAt w n,0⟩]else z
def dj(w:aQ)(aJ:Int)(cut:Bs)(ar:List Int)(z:ax):ax:=ar.foldl (oc w aJ cut) z
def iY(z:ax)(s:Bs)(kind aJ:Int)(data:List Datum):(bN z s kind aJ data).af.length<=z.af.length+1:=by
 unfold bN;dsimp only;split
 .rw[List.length_set];omega
 .rw[List.length_append,List.length_append,List.length_take,List.length_drop];have:=Tb z.af<|fc z s kind aJ data;simp;omega
def rU(w:aQ)(aJ:Int)(cut:Bs):∀(l:List Int) (z:ax),(dj w aJ cut l z).af.length<=z.af.length+l.length
 |[],z=>Nat.le_refl _
 |n::t,z=>by
  have:=rU w aJ cut t<|oc w aJ cut z n;have j:(oc w aJ cut z n).af.length<=z.af.length+1:=by
   unfold oc;split
   .exact iY _ _ _ _ _
   .omega
  show(dj w aJ cut t<|oc w aJ cut z n).af.length<=_
  simp;omega
abbrev mR(s:Bs)(kind aJ:Int)(data:List Datum):AV:= .fn 114 [] [.d<|.ptr [.str s],.d<|.ptr [.int .i64 kind],.d<|.ptr [.int .i64 aJ],.d<|.ptr [.slice 3<|data.map aS]]
def fu(s:Bs)(kind aJ:Int)(data:List Datum):FnP cxW pv0 66 [.d<|.str s,aj kind,aj aJ,.d<|.slice 3<|data.map aS] []<|some (mR s kind aJ data,[]):=by
 refine bq [] (fun|_=>[]) tyW wG Tryz.func66 ?_;conv=>whnf
 exact Lh [4,5,6,7] rfl rfl rfl
def bK(o:bB):List<|Nat×Blk:=[(100034,.box<|XG true o),(90032,.smap<|je o.got),(90040,.row 72 3<|o.aF.map aP),(90041,.row 63 1<|o.bu.map dK)]
abbrev WX(o:bB)(z:ax):List<|Nat×Blk:=gV z++(100003,.box [.ptr 100034 0])::bK o
noncomputable def cxU:Cx:={cx with chg:=ja [(66,9),(114,9)],bld:=[35]}
def tyU:bC cxU:=bf
def abp:cxU.P.follows .mixedOrders=true:=mixed
def uS(o:bB)(cut:Bs)(l:List Int)(z:ax)(W:∀n∈l,cr o.w n=true)(hl:l.length<=1000)(hn:z.af.length+l.length<=100000) :
 FnP cxU pv0 119 [.ptr 100004 0,.d<|.ptr [.slice 1<|l.map dq],.ptr 100003 0,.d<|.ptr [.str cut]] (WX o z) (some (.tuple [],WX o<|dj o.w o.aJ cut l z)):=by
 refine bq [] (fun|5=>[33333]|_=>[]) tyU abp Tryz.func119 ?_;conv=>whnf
 refine⟨Nat×ax,λq=>⟨[(0,.ptr 100004 0),(1,.d<|.ptr [.slice 1<|l.map dq]),(2,.ptr 100003 0),(3,.d<|.ptr [.str cut]),(8,.d<|.slice 1<|l.map dq),(9,aj ((l.map dq).length:Int)),(10,aj q.1)],WX o q.2⟩,
  λq=>q.1<=l.length/\dj o.w o.aJ cut (l.drop q.1) q.2=dj o.w o.aJ cut l z/\q.2.af.length<=z.af.length+q.1,λq=>l.length-q.1,⟨(0,z),⟨Nat.zero_le _,rfl,Nat.le_refl _⟩,aq.keep⟩,?_⟩
 rintro⟨k,y⟩ ⟨X,j,Y⟩;dsimp only at X j Y;conv=>whnf
 refine aD ?_ ?_<;>intro h1
 .have G:k<l.length:=by simp at h1;omega
  obtain⟨n,H⟩:∃n,l[k]? =some n:=⟨_,ao G⟩
  have K:=W n<|aw H;unfold cr at K;simp only[aK,decide_eq_true_eq]at K;obtain⟨h,D⟩:∃h,o.w.ar[n.toNat]? =some h:=⟨_,ao<|by omega⟩
  have T:nameAt o.w n=h.name:=by unfold nameAt;rw[D]
  have U:addrAt o.w n=h.addr:=by unfold addrAt;rw[D]
  rw[drop_cons H]at j;have j:dj o.w o.aJ cut (l.drop<|k+1) (oc o.w o.aJ cut y n)=dj o.w o.aJ cut l z:=j;unfold oc at j;rw[T,U]at j;refine⟨aB k,dq n,aL H,M ?_⟩
  refine⟨K.1,gG h,aL D,M ?_⟩
  (refine⟨_,_,pV h.name cut,M ?_⟩)
  refine aD ?_ ?_<;>intro N
  .rw[if_pos N]at j;have V:=bX (cx' :=cxU) rfl rfl<|fu h.name 1 o.aJ [⟨[],h.addr,0⟩];have I:=bX (cx' :=cxU) rfl rfl (fV y h.name 1 o.aJ [⟨[],h.addr,0⟩] (by omega)<|by simp);have J:=iY y h.name 1 o.aJ [⟨[],h.addr,0⟩];generalize bN y h.name 1 o.aJ [⟨[],h.addr,0⟩]=Z at j I J
   (refine cn<|M ?_)
   repeat' (first
    |(refine⟨[7,100004,90020,100003,100034,90032,90040,90041],_,V,⟨rfl,rfl,rfl⟩,?_⟩;(conv=>whnf);refine aN ?_;(conv=>whnf))
    |(refine⟨[7,100003,100034,90032,90040,90041],_,I,⟨rfl,rfl,rfl⟩,?_⟩;(conv=>whnf);refine aN ?_;(conv=>whnf))
    |(refine And.intro (by kernel_rfl)<|M ?_)
    |(refine And.intro ?_ ?_<;>(conv=>whnf)))
   all_goals exact⟨(k+1,Z),⟨G,j,by dsimp only;omega⟩,by(show l.length-(k+1)<l.length-k;omega),aq.keep⟩
  .rw[if_neg<|by rw[N];decide]at j;exact⟨(k+1,y),⟨G,j,by dsimp only;omega⟩,by(show l.length-(k+1)<l.length-k;omega),aq.keep⟩
 .obtain rfl:k=l.length:=by simp at h1;omega
  rw[List.drop_length]at j;have j:y=dj o.w o.aJ cut l z:=j;subst j;exact .inl ⟨[],aq.keep,rfl⟩
def pvW(e:Int):Value:= .iface 91<|.agg #[.int .i64 e]
def QH(e:Int)(w:World):Calls Tryz.prog 61 #[.int .i64 e] w λen w' =>en= .panicked [{v:=pvW e,recovered:=false}]/\w' =w:=by
 go_enter Tryz.func61,Tryz.ntmps61
 go_wp2
 exact⟨rfl,rfl,rfl⟩
def ma(e:Int)(J:e≠0):FnP cxW pvW 61 [aj e] [] none:=by
 refine⟨⟨_,Tryz.func61,by kernel_rfl,by kernel_rfl⟩,λO w σ vs U N I H T D j=>?_⟩;have v0:vs.getD 0 Go.undef= .int .i64 e:=(j 0 _ rfl).int;have G:vs= #[.int .i64 e]:=by rw[vu D,v0]
 rw[G];refine(QH e w).mono ?_;rintro K w' ⟨rfl,rfl⟩;exact⟨⟨rfl,rfl,rfl,Nat.le_refl _,λ_ _=>rfl⟩,e,J,rfl⟩
noncomputable def Qz:Cx:={cx with chg:=ja [(61,9)]}
def abO:bC Qz:=bf
def Pt:Qz.P.follows .mixedOrders=true:=mixed
def xO(z:ax)(s:Bs)(kind:Int)(D:z.af.length<=100000):FnP Qz pvW 34 [.undef,.agg<|(aV z).map .d,.d<|.str s,aj kind] [] (if (wfR z s kind).2=true then some (.agg<|(bV (wfR z s kind).1).map .d,[])else none):=by
 cases h:(wfR z s kind).2 with
 |true =>
  rw[if_pos rfl];refine bq [] (fun|_=>[]) abO Pt Tryz.func34 ?_;conv=>whnf
  have j:=pC z s kind D;rw[h]at j
  (refine⟨_,_,j,M ?_⟩)
  exact ck rfl rfl rfl trivial
 |false =>
  rw[if_neg<|by decide];refine bq [] (fun|3=>[33333]|_=>[]) abO Pt Tryz.func34 ?_;conv=>whnf
  have j:=pC z s kind D;rw[h]at j
  (refine⟨_,_,j,M ?_⟩)
  have G:=bX (cx' :=Qz) rfl rfl (ma 35<|by decide);exact⟨[5,8,9],_,G,⟨rfl,rfl,rfl⟩,rfl⟩
noncomputable def Fs:Cx:={cx with chg:=ja [(61,9),(60,9)]}
def abP:bC Fs:=bf
def Pu:Fs.P.follows .mixedOrders=true:=mixed
abbrev Zk(z:ax):List<|Nat×Blk:=(90005,.box [.d<|.str z.ag,.own 90020])::gV z
def EY(z:ax)(s:Bs)(kind:Int)(J:z.af.length<=100000):FnP cxW pv0 60 [.agg [.d<|.str z.ag,.own 90020],.d<|.str s,aj kind] (Zk z)<|some (.tuple [.agg<|(bV (wfR z s kind).1).map .d,.d<|.bool (wfR z s kind).2],Zk z):=by
 refine bq [] (fun|_=>[]) tyW wG Tryz.func60 ?_;conv=>whnf
 (refine⟨_,Ct z.af (isF s kind) _ _ J λx _=>Aj x s kind,rfl,M ?_⟩)
 have D:=nu (isF s kind) z.af;have j:wfR z s kind=match z.af.find? (isF s kind)with|some x=>(x.set,true)|none=>(wR,false):=rfl
 cases H:z.af.findIdx? (isF s kind)with
 |none =>
  rw[H]at D;rw[<- D]at j;conv=>whnf
  exact ck rfl (by rw[j];rfl) (by rw[j];rfl)
 |some k =>
  rw[H]at D;obtain⟨G,_⟩:=List.findIdx?_eq_some_iff_getElem.1 H;obtain⟨x,I⟩:∃x,z.af[k]? =some x:=⟨_,ao G⟩
  rw[<- D]at j;simp only[I]at j;conv=>whnf
  refine⟨aB k,by(show k<_;rw[au];exact G),M ?_⟩
  refine⟨an x,aL I,M ?_⟩
  exact ck rfl (by rw[j];rfl) (by rw[j];rfl)
def bZ{cx:Cx}{pv pv' :Int->Value}{f:FuncId}{args:List AV}{h:List<|Nat×Blk}{x:AV}{h' :List<|Nat×Blk}(j:FnP cx pv f args h<|some (x,h')):FnP cx pv' f args h<|some (x,h'):=j
def va(z:ax)(s:Bs)(kind:Int)(D:z.af.length<=100000):FnP Fs pvW 34 [.undef,.agg [.d<|.str z.ag,.own 90020],.d<|.str s,aj kind] (gV z) (if (wfR z s kind).2=true then some (.agg<|(bV (wfR z s kind).1).map .d,gV z)else none):=by
 cases h:(wfR z s kind).2 with
 |true =>
  rw[if_pos rfl];refine bq [] (fun|1=>[33333,55555]|_=>[]) abP Pu Tryz.func34 ?_;conv=>whnf
  have j:=bZ (pv' :=pvW)<|bX (cx' :=Fs) rfl rfl<|EY z s kind D;rw[h]at j;refine⟨_,aq.name 5 90005 rfl rfl,M ?_⟩
  refine⟨[8],_,j,⟨rfl,rfl,rfl⟩,M ?_⟩
  refine aN<|M ?_
  exact ck rfl rfl rfl
 |false =>
  rw[if_neg<|by decide];refine bq [] (fun|1=>[33333,55555]|3=>[33333]|_=>[]) abP Pu Tryz.func34 ?_;conv=>whnf
  have j:=bZ (pv' :=pvW)<|bX (cx' :=Fs) rfl rfl<|EY z s kind D;rw[h]at j;refine⟨_,aq.name 5 90005 rfl rfl,M ?_⟩
  refine⟨[8],_,j,⟨rfl,rfl,rfl⟩,M ?_⟩
  refine aN<|M ?_
  have G:=bX (cx' :=Fs) rfl rfl (ma 35<|by decide);exact⟨[90005,8,9,100004,90020],_,G,⟨rfl,rfl,rfl⟩,rfl⟩
def ph(s:cH):Datum:=match s.data with|d::_=>d|[]=>⟨[],0,0⟩
def ej(z:ax):ax:=bN z z.ag 4 0 [⟨[],(sD (ph (wfR z z.ag 4).1).n).1,(ph (wfR z z.ag 4).1).m⟩]
def nP(since aT:Int)(v:ax):Option ax :=
 if (wfR v v.ag 7).2=true then
  if (((dJ (wfR v v.ag 7).1).2 != 0)|| !aW v)=true then none
  else if ((eW v).2 != 0)=true then none
  else if (((iW (eW v).1 (dJ (wfR v v.ag 7).1).1 since aT).2 != 0)|| !aW (iW (eW v).1 (dJ (wfR v v.ag 7).1).1 since aT).1)=true then none
  else some (iW (eW v).1 (dJ (wfR v v.ag 7).1).1 since aT).1
 else none
def cY(since aT:Int)(z:ax):Option ax :=
 if (wfR z z.ag 4).2=true then
  if ((sD (ph (wfR z z.ag 4).1).n).2 != 0)=true then none
  else nP since aT (ej z)
 else none
def px(h:List<|Nat×Blk):Option ax->Option (AV×List (Nat×Blk))
 |some z=>some (.agg<|(aV z).map .d,h)
 |none=>none
noncomputable def dF:Cx:={cx with chg:=ja [(81,9),(66,9),(114,9),(133,9),(119,9),(34,11),(61,9)],bld:=[50]}
def LJ:bC dF:=bf
def wF:dF.P.follows .mixedOrders=true:=mixed
def iH(n:Nat):Code->Option Code
 | .region id ops dr=>(match Nat.beq id n with|true=>some<|.region id ops dr|false=>none)
 | .seq a b=>(match iH n a with|some c=>some<|.seq c b|none=>iH n b)
 |_=>none
def gW{cx:Cx}{fre:List Nat}{st canon:St}{X:St->Prop}(h:∃st',aq cx fre canon st' /\X st')(D:aq cx fre st canon):∃st',aq cx fre st st' /\X st' :=by
 obtain⟨st',h1,j⟩:=h;exact⟨st',D.trans h1,j⟩
def yA(s:cH):(dJ s).1.length<=100000:=by
 unfold dJ;split
 .rename_i h;split
  .have:=tj h;unfold oW;simp;omega
  .simp
 .simp
def slF:Nat->List Nat:=(fun|1=>[33333]|5=>[33333]|7=>[33333,55555]|10=>[33333]|11=>[33333,55555]|12=>[33333,55555]|13=>[90020]|14=>[33333]|15=>[55555]|18=>[55555]|17=>[33333]|20=>[33333]|_=>[])
noncomputable abbrev EC:Code:=(Tryz.f70).body.getD .skip
noncomputable abbrev Sb:List ResultVar:=(Tryz.f70).results.toList
def RS(o:bB)(v:ax)(kr:v.af.length<=90001) :
 vcp dF [100004] pvW 101 slF (λ_=>px (bK o) (nP o.since o.aT v)=none) ((iH 12 EC).getD .skip) (qi dF [100004] Sb<|px (bK o)<|nP o.since o.aT v)
  ⟨[(0,.ptr 100034 0),(4,.ptr 100004 0),(6,.ptr 6 0)],gV v++(6,.box [.d<|.str [],.nil 5])::bK o⟩:=by
 conv=>whnf
 refine⟨_,aq.refl _,M ?_⟩
 obtain⟨r,j⟩:∃r,r=nP o.since o.aT v:=⟨_,rfl⟩
 rw[<- j];unfold nP at j;have D:=va v v.ag 7 (by omega);obtain⟨V,b7,h7⟩:∃a b,wfR v v.ag 7=(a,b):=⟨_,_,rfl⟩
 rw[h7]at D j;dsimp only at D j;cases b7 with
 |false =>
  rw[if_neg<|by decide]at j D;subst j;have D:=bX (cx' :=dF) rfl rfl D;exact⟨[6,100034,90032,90040,90041],_,D,⟨rfl,rfl,rfl⟩,rfl⟩
 |true =>
 rw[if_pos rfl]at D j;have D:=bX (cx' :=dF) rfl rfl D;refine⟨[6,100034,90032,90040,90041],_,D,⟨rfl,rfl,rfl⟩,M ?_⟩
 refine aN ?_;clear D;conv=>whnf
 have X:=Aa V;obtain⟨I,ke,N⟩:∃a b,dJ V=(a,b):=⟨_,_,rfl⟩
 rw[N]at X j;dsimp only at X j
 (refine⟨_,_,X,M ?_⟩)
 have J:=bX (cx' :=dF) rfl rfl (ma 35<|by decide);have Z:I.length<=100000:=by
  have e:I=(dJ V).1:=by rw[N]
  rw[e];exact yA V
 cases G:(ke != 0)with
 |true =>
  rw[G,if_pos<|by simp]at j;subst j;conv=>whnf
  exact⟨[6,100004,100034,90032,90040,90041],_,J,⟨rfl,rfl,rfl⟩,rfl⟩
 |false =>
 conv=>whnf
 (refine⟨_,_,jI v,M ?_⟩)
 cases U:aW v with
 |false =>
  rw[G,U,if_pos<|by simp]at j;subst j;conv=>whnf
  exact⟨[6,100004,100034,90032,90040,90041],_,J,⟨rfl,rfl,rfl⟩,rfl⟩
 |true =>
 rw[G,U,if_neg<|by simp]at j;conv=>whnf
 refine⟨_,aq.keep (sl:=[(0,.ptr 100034 0),(4,.ptr 100004 0),(6,.ptr 6 0),(12,.d<|.slice 2<|I.map dH)]) (h:=(100004,.box<|(aV v).map .d)::(6,.box [.d<|.str [],.nil 5])::bK o),M ?_⟩
 have W:=Jy v;obtain⟨c,ce,hc⟩:∃a b,eW v=(a,b):=⟨_,_,rfl⟩
 rw[hc]at W j;dsimp only at W j
 (refine⟨_,_,W,M ?_⟩)
 cases K:(ce != 0)with
 |true =>
  rw[K,if_pos<|by simp]at j;subst j;conv=>whnf
  exact⟨[6,100004,100034,90032,90040,90041],_,J,⟨rfl,rfl,rfl⟩,rfl⟩
 |false =>
 rw[K,if_neg<|by simp]at j;conv=>whnf
 refine⟨_,aq.keep (sl:=[(0,.ptr 100034 0),(4,.ptr 100004 0),(6,.ptr 6 0),(12,.d<|.slice 2<|I.map dH)]) (h:=(100004,.box<|(aV c).map .d)::(6,.box [.d<|.str [],.nil 5])::bK o),M ?_⟩
 have Y:=SN c I o.since o.aT Z;obtain⟨l,le,hl⟩:∃a b,iW c I o.since o.aT=(a,b):=⟨_,_,rfl⟩
 rw[hl]at Y j;dsimp only at Y j
 (refine bJ<|M ?_)
 (refine⟨_,_,Y,M ?_⟩)
 cases H:(le != 0)with
 |true =>
  rw[H,if_pos<|by simp]at j;subst j;conv=>whnf
  exact⟨[6,100004,100034,90032,90040,90041],_,J,⟨rfl,rfl,rfl⟩,rfl⟩
 |false =>
 conv=>whnf
 (refine⟨_,_,jI l,M ?_⟩)
 cases T:aW l with
 |false =>
  rw[H,T,if_pos<|by simp]at j;subst j;conv=>whnf
  exact⟨[6,100004,100034,90032,90040,90041],_,J,⟨rfl,rfl,rfl⟩,rfl⟩
 |true =>
 rw[H,T,if_neg<|by simp]at j;subst j;conv=>whnf
 exact ck rfl rfl rfl
def UJ(o:bB)(y:ax)(kr:y.af.length<=90000)(Z:(wfR y y.ag 4).2=true->(wfR y y.ag 4).1.data≠[]) :
 vcp dF [100004] pvW 101 slF (λ_=>px (bK o) (cY o.since o.aT y)=none) ((iH 7 EC).getD .skip) (qi dF [100004] Sb<|px (bK o)<|cY o.since o.aT y)
  ⟨[(0,.ptr 100034 0),(4,.ptr 100004 0),(6,.ptr 6 0)],gV y++(6,.box [.d<|.str [],.nil 5])::bK o⟩:=by
 conv=>whnf
 refine⟨_,aq.refl _,M ?_⟩
 obtain⟨r,j⟩:∃r,r=cY o.since o.aT y:=⟨_,rfl⟩
 rw[<- j];unfold cY at j;have G:=va y y.ag 4 (by omega);cases h1:(wfR y y.ag 4).2 with
 |false =>
  rw[h1]at G;rw[h1,if_neg<|by decide]at j;subst j;have G:=bX (cx' :=dF) rfl rfl G;exact⟨[6,100034,90032,90040,90041],_,G,⟨rfl,rfl,rfl⟩,rfl⟩
 |true =>
 rw[h1,if_pos rfl]at G;rw[h1,if_pos rfl]at j;have G:=bX (cx' :=dF) rfl rfl G;refine⟨[6,100034,90032,90040,90041],_,G,⟨rfl,rfl,rfl⟩,M ?_⟩
 refine aN<|M ?_
 have Y:=Z h1;obtain⟨D,dt,H⟩:∃d t,(wfR y y.ag 4).1.data=d::t:=by
  cases hc:(wfR y y.ag 4).1.data with
  |nil=>exact absurd hc Y
  |cons d t=>exact⟨d,t,rfl⟩
 have T:ph (wfR y y.ag 4).1=D:=by unfold ph;rw[H]
 rw[T]at j;have I:((wfR y y.ag 4).1.data.map aS)[(0:Int).toNat]? =some (aS D):=by rw[H];rfl
 refine⟨Int.le_refl 0,aS D,I,M ?_⟩
 obtain⟨K,ne,W⟩:∃a b,sD D.n=(a,b):=⟨_,_,rfl⟩
 have X:=Jf D.n;rw[W]at X j;dsimp only at X j
 (refine⟨_,_,X,M ?_⟩)
 refine aD ?_ ?_<;>intro h2
 .rw[if_pos h2]at j;subst j;have hF:=bX (cx' :=dF) rfl rfl (ma 35<|by decide);exact⟨[6,9,100004,90020,100034,90032,90040,90041],_,hF,⟨rfl,rfl,rfl⟩,rfl⟩
 rw[if_neg<|by rw[h2];decide]at j;have V:ej y=bN y y.ag 4 0 [⟨[],K,D.m⟩]:=by unfold ej;rw[T,W]
 have hB:=bZ (pv' :=pvW)<|bX (cx' :=dF) rfl rfl<|fu y.ag 4 0 [⟨[],K,D.m⟩];have J:=bZ (pv' :=pvW) (bX (cx' :=dF) rfl rfl<|fV y y.ag 4 0 [⟨[],K,D.m⟩] (by omega)<|by simp);have U:=iY y y.ag 4 0 [⟨[],K,D.m⟩];have N:(bN y y.ag 4 0 [⟨[],K,D.m⟩]).ag=y.ag:=rfl;rw[<- V]at J U N;generalize ej y=v at J U N j V;refine⟨_,aq.keep (sl:=[(0,.ptr 100034 0),(4,.ptr 100004 0),(6,.ptr 6 0),(9,.ptr 9 0),(10,aj K)]) (h:=gV y++(6,.box [.d<|.str [],.nil 5])::(9,.box<|(bV (wfR y y.ag 4).1).map .d)::bK o),M ?_⟩
 (refine cn<|M ?_)
 refine⟨Int.le_refl 0,aS D,I,M ?_⟩
 refine⟨by kernel_rfl,M ?_⟩
 refine⟨by kernel_rfl,M ?_⟩
 refine⟨[6,9,100004,90020,100034,90032,90040,90041],_,hB,⟨rfl,rfl,rfl⟩,M ?_⟩
 refine aN<|M ?_
 refine⟨[6,9,100034,90032,90040,90041],_,J,⟨rfl,rfl,rfl⟩,M ?_⟩
 refine aN<|M ?_
 have ht:=RS o v (by omega);conv at ht=>whnf
 rw[<- j]at ht;exact gW ht<|aq.keep
abbrev aa0(s:Bs)(kind aJ:Int)(data:List Datum):D:= .fn 114 [] [.ptr [.str s],.ptr [.int .i64 kind],.ptr [.int .i64 aJ],.ptr [.slice 3<|data.map aS]]
def vh(o:bB)(z:ax)(s:Bs)(kind aJ:Int)(data:List Datum)(I:aW z=true)(K:data.length<=100000)(G:(wfR (bN z s kind aJ data) z.ag 4).2=true->(wfR (bN z s kind aJ data) z.ag 4).1.data≠[]) :
 FnP dF pvW 70 [.ptr 100034 0,.agg<|(aV z).map .d,.d<|.slice 1 [[aa0 s kind aJ data]]] (bK o) (px (bK o)<|cY o.since o.aT<|bN z s kind aJ data):=by
 refine bq [100004] slF LJ wF Tryz.func70 ?_;conv=>whnf
 have D:=bt I;have J:=bZ (pv' :=pvW)<|bX (cx' :=dF) rfl rfl (lZ z (by have:=D.few;omega) λs N=>by have:=jY I s N;omega);refine⟨[4,6,100034,90032,90040,90041],_,J,⟨rfl,rfl,rfl⟩,M ?_⟩
 refine aN<|M ?_
 refine⟨Nat,λk=>⟨[(0,.ptr 100034 0),(4,.ptr 100004 0),(6,.ptr 6 0),(15,.d<|.slice 1 [[aa0 s kind aJ data]]),(16,aj 1),(17,aj k)],gV (match k with|0=>z|_=>bN z s kind aJ data)++(6,.box [.d<|.str [],.nil 5])::bK o⟩,
  λk=>k<=1,λk=>1-k,⟨0,Nat.zero_le _,(aq.name 4 100004 rfl rfl).trans<|aq.keep⟩,λk T=>?_⟩
 rcases k with _|_|k
 case succ.succ=>omega
 .conv=>whnf
  refine⟨by decide,_,rfl,M ?_⟩
  have j:=bZ (pv' :=pvW)<|bX (cx' :=dF) rfl rfl<|fV z s kind aJ data (by have:=D.few;omega) K;refine⟨[6,100034,90032,90040,90041],_,j,⟨rfl,rfl,rfl⟩,M ?_⟩
  refine aN<|M ?_
  exact⟨1,Nat.le_refl _,by decide,aq.keep⟩
 have H:=UJ o (bN z s kind aJ data) (by have:=iY z s kind aJ data;have:=D.few;omega) G;conv at H=>whnf
 conv=>whnf
 exact gW H<|aq.keep
abbrev gBz(o:bB):List<|Nat×Blk:=(100003,.box [.ptr 100034 0])::bK o
abbrev pn(l:List Int)(cut:Bs):AV:= .fn 119 [] [.d<|.ptr [.slice 1<|l.map dq],.ptr 100003 0,.d<|.ptr [.str cut]]
def Od(o:bB)(v:ax)(kr:v.af.length<=90001) :
 vcp dF [100004] pvW 101 slF (λ_=>px (gBz o) (nP o.since o.aT v)=none) ((iH 12 EC).getD .skip) (qi dF [100004] Sb<|px (gBz o)<|nP o.since o.aT v)
  ⟨[(0,.ptr 100034 0),(4,.ptr 100004 0),(6,.ptr 6 0)],gV v++(6,.box [.d<|.str [],.nil 5])::gBz o⟩:=by
 conv=>whnf
 refine⟨_,aq.refl _,M ?_⟩
 obtain⟨r,j⟩:∃r,r=nP o.since o.aT v:=⟨_,rfl⟩
 rw[<- j];unfold nP at j;have D:=va v v.ag 7 (by omega);obtain⟨V,b7,h7⟩:∃a b,wfR v v.ag 7=(a,b):=⟨_,_,rfl⟩
 rw[h7]at D j;dsimp only at D j;cases b7 with
 |false =>
  rw[if_neg<|by decide]at j D;subst j;have D:=bX (cx' :=dF) rfl rfl D;exact⟨[6,100003,100034,90032,90040,90041],_,D,⟨rfl,rfl,rfl⟩,rfl⟩
 |true =>
 rw[if_pos rfl]at D j;have D:=bX (cx' :=dF) rfl rfl D;refine⟨[6,100003,100034,90032,90040,90041],_,D,⟨rfl,rfl,rfl⟩,M ?_⟩
 refine aN ?_;clear D;conv=>whnf
 have X:=Aa V;obtain⟨I,ke,N⟩:∃a b,dJ V=(a,b):=⟨_,_,rfl⟩
 rw[N]at X j;dsimp only at X j
 (refine⟨_,_,X,M ?_⟩)
 have J:=bX (cx' :=dF) rfl rfl (ma 35<|by decide);have Z:I.length<=100000:=by
  have e:I=(dJ V).1:=by rw[N]
  rw[e];exact yA V
 cases G:(ke != 0)with
 |true =>
  rw[G,if_pos<|by simp]at j;subst j;conv=>whnf
  exact⟨[6,100004,100003,100034,90032,90040,90041],_,J,⟨rfl,rfl,rfl⟩,rfl⟩
 |false =>
 conv=>whnf
 (refine⟨_,_,jI v,M ?_⟩)
 cases U:aW v with
 |false =>
  rw[G,U,if_pos<|by simp]at j;subst j;conv=>whnf
  exact⟨[6,100004,100003,100034,90032,90040,90041],_,J,⟨rfl,rfl,rfl⟩,rfl⟩
 |true =>
 rw[G,U,if_neg<|by simp]at j;conv=>whnf
 refine⟨_,aq.keep (sl:=[(0,.ptr 100034 0),(4,.ptr 100004 0),(6,.ptr 6 0),(12,.d<|.slice 2<|I.map dH)]) (h:=(100004,.box<|(aV v).map .d)::(6,.box [.d<|.str [],.nil 5])::gBz o),M ?_⟩
 have W:=Jy v;obtain⟨c,ce,hc⟩:∃a b,eW v=(a,b):=⟨_,_,rfl⟩
 rw[hc]at W j;dsimp only at W j
 (refine⟨_,_,W,M ?_⟩)
 cases K:(ce != 0)with
 |true =>
  rw[K,if_pos<|by simp]at j;subst j;conv=>whnf
  exact⟨[6,100004,100003,100034,90032,90040,90041],_,J,⟨rfl,rfl,rfl⟩,rfl⟩
 |false =>
 rw[K,if_neg<|by simp]at j;conv=>whnf
 refine⟨_,aq.keep (sl:=[(0,.ptr 100034 0),(4,.ptr 100004 0),(6,.ptr 6 0),(12,.d<|.slice 2<|I.map dH)]) (h:=(100004,.box<|(aV c).map .d)::(6,.box [.d<|.str [],.nil 5])::gBz o),M ?_⟩
 have Y:=SN c I o.since o.aT Z;obtain⟨l,le,hl⟩:∃a b,iW c I o.since o.aT=(a,b):=⟨_,_,rfl⟩
 rw[hl]at Y j;dsimp only at Y j
 (refine bJ<|M ?_)
 (refine⟨_,_,Y,M ?_⟩)
 cases H:(le != 0)with
 |true =>
  rw[H,if_pos<|by simp]at j;subst j;conv=>whnf
  exact⟨[6,100004,100003,100034,90032,90040,90041],_,J,⟨rfl,rfl,rfl⟩,rfl⟩
 |false =>
 conv=>whnf
 (refine⟨_,_,jI l,M ?_⟩)
 cases T:aW l with
 |false =>
  rw[H,T,if_pos<|by simp]at j;subst j;conv=>whnf
  exact⟨[6,100004,100003,100034,90032,90040,90041],_,J,⟨rfl,rfl,rfl⟩,rfl⟩
 |true =>
 rw[H,T,if_neg<|by simp]at j;subst j;conv=>whnf
 exact ck rfl rfl rfl
def td(o:bB)(y:ax)(kr:y.af.length<=90000)(Z:(wfR y y.ag 4).2=true->(wfR y y.ag 4).1.data≠[]) :
 vcp dF [100004] pvW 101 slF (λ_=>px (gBz o) (cY o.since o.aT y)=none) ((iH 7 EC).getD .skip) (qi dF [100004] Sb<|px (gBz o)<|cY o.since o.aT y)
  ⟨[(0,.ptr 100034 0),(4,.ptr 100004 0),(6,.ptr 6 0)],gV y++(6,.box [.d<|.str [],.nil 5])::gBz o⟩:=by
 conv=>whnf
 refine⟨_,aq.refl _,M ?_⟩
 obtain⟨r,j⟩:∃r,r=cY o.since o.aT y:=⟨_,rfl⟩
 rw[<- j];unfold cY at j;have G:=va y y.ag 4 (by omega);cases h1:(wfR y y.ag 4).2 with
 |false =>
  rw[h1]at G;rw[h1,if_neg<|by decide]at j;subst j;have G:=bX (cx' :=dF) rfl rfl G;exact⟨[6,100003,100034,90032,90040,90041],_,G,⟨rfl,rfl,rfl⟩,rfl⟩
 |true =>
 rw[h1,if_pos rfl]at G;rw[h1,if_pos rfl]at j;have G:=bX (cx' :=dF) rfl rfl G;refine⟨[6,100003,100034,90032,90040,90041],_,G,⟨rfl,rfl,rfl⟩,M ?_⟩
 refine aN<|M ?_
 have Y:=Z h1;obtain⟨D,dt,H⟩:∃d t,(wfR y y.ag 4).1.data=d::t:=by
  cases hc:(wfR y y.ag 4).1.data with
  |nil=>exact absurd hc Y
  |cons d t=>exact⟨d,t,rfl⟩
 have T:ph (wfR y y.ag 4).1=D:=by unfold ph;rw[H]
 rw[T]at j;have I:((wfR y y.ag 4).1.data.map aS)[(0:Int).toNat]? =some (aS D):=by rw[H];rfl
 refine⟨Int.le_refl 0,aS D,I,M ?_⟩
 obtain⟨K,ne,W⟩:∃a b,sD D.n=(a,b):=⟨_,_,rfl⟩
 have X:=Jf D.n;rw[W]at X j;dsimp only at X j
 (refine⟨_,_,X,M ?_⟩)
 refine aD ?_ ?_<;>intro h2
 .rw[if_pos h2]at j;subst j;have hF:=bX (cx' :=dF) rfl rfl (ma 35<|by decide);exact⟨[6,9,100004,90020,100003,100034,90032,90040,90041],_,hF,⟨rfl,rfl,rfl⟩,rfl⟩
 rw[if_neg<|by rw[h2];decide]at j;have V:ej y=bN y y.ag 4 0 [⟨[],K,D.m⟩]:=by unfold ej;rw[T,W]
 have hB:=bZ (pv' :=pvW)<|bX (cx' :=dF) rfl rfl<|fu y.ag 4 0 [⟨[],K,D.m⟩];have J:=bZ (pv' :=pvW) (bX (cx' :=dF) rfl rfl<|fV y y.ag 4 0 [⟨[],K,D.m⟩] (by omega)<|by simp);have U:=iY y y.ag 4 0 [⟨[],K,D.m⟩];have N:(bN y y.ag 4 0 [⟨[],K,D.m⟩]).ag=y.ag:=rfl;rw[<- V]at J U N;generalize ej y=v at J U N j V;refine⟨_,aq.keep (sl:=[(0,.ptr 100034 0),(4,.ptr 100004 0),(6,.ptr 6 0),(9,.ptr 9 0),(10,aj K)]) (h:=gV y++(6,.box [.d<|.str [],.nil 5])::(9,.box<|(bV (wfR y y.ag 4).1).map .d)::gBz o),M ?_⟩
 (refine cn<|M ?_)
 refine⟨Int.le_refl 0,aS D,I,M ?_⟩
 refine⟨by kernel_rfl,M ?_⟩
 refine⟨by kernel_rfl,M ?_⟩
 refine⟨[6,9,100004,90020,100003,100034,90032,90040,90041],_,hB,⟨rfl,rfl,rfl⟩,M ?_⟩
 refine aN<|M ?_
 refine⟨[6,9,100003,100034,90032,90040,90041],_,J,⟨rfl,rfl,rfl⟩,M ?_⟩
 refine aN<|M ?_
 have ht:=Od o v (by omega);conv at ht=>whnf
 rw[<- j]at ht;exact gW ht<|aq.keep
def ZSm(z:ax):Prop:=z.af.length<=20000/\ ∀s∈z.af,s.set.data.length<=100000/\s.sigs.length<=100000
def qk(w:aQ)(aJ:Int)(cut:Bs):∀(l:List Int) (z:ax),(dj w aJ cut l z).ag=z.ag
 |[],z=>rfl
 |n::t,z=>by
  show(dj w aJ cut t<|oc w aJ cut z n).ag=z.ag
  rw[qk w aJ cut t];unfold oc;split<;>rfl
def vS(p:Signed->Bool)(z:ax):ax:=⟨z.ag,z.af.filter λs=> !p s⟩
def XL(p:Signed->Bool)(z:ax):(vS p z).af.length<=z.af.length:=List.length_filter_le ..
abbrev woA(F:FuncId)(x:bG):AV:= .fn 133 [] [.d<|.ptr [.fn F [] [.ptr<|bw x]]]
def RN(o:bB)(z:ax)(s:Bs)(c:Int)(f:Int)(d:List Datum)(cut:Bs)(l:List Int)(K:ZSm z)(hh:∀n∈l,cr o.w n=true)(hl:l.length<=1000)(X:d.length<=100000)(j:(wfR (dj o.w o.aJ cut l<|bN z s c f d) z.ag 4).2=true->(wfR (dj o.w o.aJ cut l<|bN z s c f d) z.ag 4).1.data≠[]) :
 FnP dF pvW 70 [.ptr 100034 0,.agg<|(aV z).map .d,.own 76] ((76,.fb 122 1 [[mR s c f d],[pn l cut]])::gBz o) (px (gBz o)<|cY o.since o.aT<|dj o.w o.aJ cut l<|bN z s c f d):=by
 refine bq [100004] slF LJ wF Tryz.func70 ?_;conv=>whnf
 have W:=bZ (pv' :=pvW)<|bX (cx' :=dF) rfl rfl<|lZ z (by have:=K.1;omega) K.2;refine⟨[4,6,76,100003,100034,90032,90040,90041],_,W,⟨rfl,rfl,rfl⟩,M ?_⟩
 refine aN<|M ?_
 have G:=bZ (pv' :=pvW)<|bX (cx' :=dF) rfl rfl<|fV z s c f d (by have:=K.1;omega) X;have N:=iY z s c f d;have I:(bN z s c f d).ag=z.ag:=rfl;generalize Y:bN z s c f d=D at G N I j ⊢;have H:=bZ (pv' :=pvW)<|bX (cx' :=dF) rfl rfl (uS o cut l D hh hl<|by have:=K.1;omega);have T:=rU o.w o.aJ cut l D;have J:(dj o.w o.aJ cut l D).ag=D.ag:=qk ..;generalize Z:dj o.w o.aJ cut l D=V at H T J j ⊢
 refine⟨Nat,λk=>⟨[(0,.ptr 100034 0),(4,.ptr 100004 0),(6,.ptr 6 0),(15,.own 76),(16,aj 2),(17,aj k)],gV (match k with|0=>z|1=>D|_=>V)++(6,.box [.d<|.str [],.nil 5])::(76,.fb 122 1 [[mR s c f d],[pn l cut]])::gBz o⟩,
  λk=>k<=2,λk=>2-k,⟨0,Nat.zero_le _,(aq.name 4 100004 rfl rfl).trans<|aq.keep⟩,λk hk=>?_⟩
 rcases k with _|_|_|k
 case succ.succ.succ=>omega
 .conv=>whnf
  refine⟨by decide,bA rfl,M ?_⟩
  refine⟨_,rfl,M ?_⟩
  refine⟨[6,76,100003,100034,90032,90040,90041],_,G,⟨by kernel_rfl,by kernel_rfl,by kernel_rfl⟩,M ?_⟩
  refine aN<|M ?_
  exact⟨1,by decide,by(show 2-1<2-0;omega),aq.keep⟩
 .conv=>whnf
  refine⟨by decide,bA rfl,M ?_⟩
  refine⟨_,rfl,M ?_⟩
  refine⟨[6,76],_,H,⟨by kernel_rfl,by kernel_rfl,by kernel_rfl⟩,M ?_⟩
  refine aN<|M ?_
  exact⟨2,by decide,by(show 2-2<2-1;omega),aq.keep⟩
 have U:=td o V (by have:=K.1;omega) (by rw[J,I];exact j);conv at U=>whnf
 conv=>whnf
 exact gW U<|aq.keep
end Go.Proofs.YtjojkakjmoefaaaGreatDoor

namespace NQ
open Go Go.RowKit
def FnP.YP{cx:Cx}{pv:Int->Value}{f:FuncId}{args:List AV}{x y:AV}{h' :List<|Nat×Blk}(s:Nat)(h:FnP cx pv f args []<|some (x,h'))(Z:((⟨[(0,x)],h'⟩:St).freeze s).get 0=y)(U:((⟨[(0,x)],h'⟩:St).freeze s).heap=[]) :
 FnP cx pv f args [] (some (y,[])):=by
 refine⟨h.1,λO w σ vs W J D G hH T I=>(h.2 O w σ vs W J D G hH T I).mono λen w' =>?_⟩;rintro⟨X,u,σ',rfl,hh,_,hr⟩;have H:∀b,¬dX [] σ b:=λb ⟨s,hl,_⟩=>by simp[live,find]at hl
 let E:Env:=⟨λb=>dX [] σ b\/w.heap.size<=b,O,w,1,λ_=>none,[]⟩
 have N:Sim cx E ⟨[(0,x)],h'⟩ {tmps:= #[u],defers:=[]} w' :=by
  refine⟨σ',⟨X,λb K=> .inr K,λb K j=>?_,rfl,rfl,λt=>?_,hh,J,λg cells Y=>⟨λj=>?_,(D g cells Y).1⟩,λq0 B hB=>by cases hB⟩⟩
  .rcases j with j|j
   .exact H b j
   .have:=W b K;omega
  .cases t with
   |zero=>exact hr
   |succ t=>exact .undef _
  .rcases j with j|j
   .exact H g j
   .have:=(J g cells Y).1;omega
 obtain⟨τ,V⟩:=N.freeze s;refine⟨X,u,τ,rfl,?_,λs N=>by simp[cV]at N,?_⟩
 .have:=V.holds;rw[U]at this;exact this
 .have:=V.aY 0;rw[Z,U]at this;exact this
def FnP.AO{cx:Cx}{pv:Int->Value}{f:FuncId}{args D:List AV}{h:List<|Nat×Blk}{out:Option<|AV×List (Nat×Blk)}(T:FnP cx pv f D h out)(e:D=args.map dn2):FnP cx pv f args h out:=by
 subst e;refine⟨T.1,λO w σ vs X V J G W N I=>T.2 O w σ vs X V J G W (by rw[au];exact N) λj c H=>?_⟩;rw[bc]at H;cases K:args[j]? with
 |none=>rw[K]at H;cases H
 |some U =>rw[K]at H;cases H;exact Az<|I j U K
end NQ

namespace Go.Proofs.YtjojkakjmoefaaaGreatDoor
open NQ Go.RowKit
def Th(z:ax)(j:z.af.length<=100000)(D:∀s∈z.af,s.set.data.length<=100000/\s.sigs.length<=100000):NQ.Fn JR 81 [.agg<|aV z] (.agg<|(aV z).map .d) [] :=
 kF (FnP.YP 90020 (lZ z j D) rfl rfl)
def II(o:bB)(host:Int)(z:ax):bB:={o with aF:=o.aF++[⟨host,z⟩]}
noncomputable def Ft:Cx:={cx with bld:=[15]}
def Ys:bC Ft:=bf
def FL:Ft.P.follows .mixedOrders=true:=mixed
def tA(o:bB)(host:Int)(z:ax)(j:ZSm z)(hp:o.aF.length<=100000):FnP Ft pvW 64 [.ptr 100034 0,aj host,.agg<|(aV z).map .d] (bK o)<|some (.tuple [],bK<|II o host z):=by
 refine bq [] (fun|_=>[]) Ys FL Tryz.func64 ?_;conv=>whnf
 (refine bJ<|M ?_)
 (refine⟨_,_,Th z (by have:=j.1;omega) j.2,M ?_⟩)
 refine⟨by simp;omega,by simp;omega,M ?_⟩
 have e:(o.aF.map aP)++[[.int .i64 host,.str z.ag,.slice 5<|z.af.map an]]=(II o host z).aF.map aP:=by
  unfold II;rw[List.map_append];rfl
 exact .inl ⟨[],aq.keep trivial ⟨⟨rfl,rfl⟩,⟨rfl,rfl⟩,⟨congrArg (λr=>some<|Blk.row 72 3 r) e,rfl⟩,⟨rfl,rfl⟩,trivial⟩,rfl⟩
noncomputable def Cm:Cx:={cx with chg:=ja [(64,9)],bld:=[15]}
def abQ:bC Cm:=bf
def Pv:Cm.P.follows .mixedOrders=true:=mixed
def Lx(o:bB)(host:Int)(ag:Bs)(hp:o.aF.length<=100000):FnP Cm pvW 72 [.ptr 100034 0,aj host,.d<|.str ag] (bK o)<|some (.tuple [],bK<|II o host ⟨ag,[]⟩):=by
 refine bq [] (fun|_=>[33333]) abQ Pv Tryz.func72 ?_;conv=>whnf
 have j:=FnP.AO (args:=[.ptr 100034 0,aj host,.agg [.d<|.str ag,.nil 5]]) (bX (cx' :=Cm) rfl rfl<|tA o host ⟨ag,[]⟩ ⟨by simp,by simp⟩ hp) rfl;refine⟨[],_,j,⟨rfl,rfl,rfl⟩,M ?_⟩
 refine aN<|M ?_
 exact .inl ⟨[],aq.keep,rfl⟩
def BA(k:eo):FnP Ft pv0 73 [.agg<|(dH k).map .d] []<|some (.own 90050,[(90050,.row 86 3 [aS ⟨[],k.n,k.alg⟩])]):=by
 refine bq [] (fun|_=>[]) Ys FL Tryz.func73 ?_;conv=>whnf
 exact iu (aq.name 8 90050 rfl rfl) rfl rfl rfl
def rA(k:eo):FnP Ft pv0 73 [.agg<|(dH k).map .d] []<|some (.d<|.slice 3 [aS ⟨[],k.n,k.alg⟩],[]):=FnP.YP 90050 (BA k) rfl rfl
def Kp(o:bB)(cut:Bs)(l:List Int):FnP Ft pv0 68 [.ptr 100034 0,.d<|.str cut,.d<|.slice 1<|l.map dq] (bK o)<|some (.fn 119 [] [.d<|.ptr [.slice 1<|l.map dq],.ptr 90003 0,.d<|.ptr [.str cut]],(90003,.box [.ptr 100034 0])::bK o):=by
 refine bq [] (fun|1=>[4,5]|_=>[]) Ys FL Tryz.func68 ?_;conv=>whnf
 exact iu (aq.name 3 90003 rfl rfl) rfl rfl rfl
def cg(z:ax)(l:List al):List al:=(l.filter λp=>p.ai.ag==z.ag).map λp=>⟨p.host,z⟩
def cU(z:ax)(l:List Int):List al:=l.map λn=>⟨n,z⟩
def bz(g:List<|Bs×List Int)(a:Bs):List Int:=(bH a g).getD []
def yh(a:Bs):∀g:List (Bs×List Int),bH a (je g)=(bH a g).map λl=> .slice 1<|l.map dq
 |[]=>rfl
 |(k,l)::t=>by
  have:=yh a t;show(if a=k then _ else bH a<|je t)=Option.map _ (if a=k then _ else bH a t)
  rw[this];split<;>rfl
def ba(o:bB)(z:ax):bB:={o with aF:=o.aF++cg z o.w.ah++cU z (bz o.got z.ag)}
def mn(o:bB)(z:ax)(X:ZSm z)(hn:o.w.ah.length<=1000)(hp:o.aF.length<=10000)(Z:(bz o.got z.ag).length<=1000):FnP Cm pvW 69 [.ptr 100034 0,.agg<|(aV z).map .d] (bK o)<|some (.tuple [],bK<|ba o z):=by
 refine bq [] (fun|5=>[33333]|10=>[33333]|_=>[]) abQ Pv Tryz.func69 ?_;conv=>whnf
 refine⟨Nat×List al,λq=>⟨[(0,.ptr 100034 0),(3,.ptr 3 0),(12,.d<|.slice 3<|o.w.ah.map aP),(13,aj ((o.w.ah.map aP).length:Int)),(14,aj q.1)],(3,.box<|(aV z).map .d)::bK {o with aF:=q.2}⟩,
  λq=>q.1<=o.w.ah.length/\q.2++cg z (o.w.ah.drop q.1)=o.aF++cg z o.w.ah/\q.2.length<=o.aF.length+q.1,λq=>o.w.ah.length-q.1,⟨(0,o.aF),⟨Nat.zero_le _,rfl,Nat.le_refl _⟩,aq.keep⟩,?_⟩
 rintro⟨k,N⟩ ⟨V,G,hl⟩;dsimp only at V G hl;conv=>whnf
 refine aD ?_ ?_<;>intro h1
 .have D:k<o.w.ah.length:=by simp at h1;omega
  obtain⟨p,K⟩:∃p,o.w.ah[k]? =some p:=⟨_,ao D⟩
  have Y:cg z (o.w.ah.drop k)=(if (p.ai.ag==z.ag)=true then[⟨p.host,z⟩]else[])++cg z (o.w.ah.drop<|k+1):=by
   rw[drop_cons K];unfold cg;rw[List.filter_cons];split<;>rfl
  rw[Y, <- List.append_assoc]at G;refine⟨aB k,aP p,aL K,M ?_⟩
  refine aD ?_ ?_<;>intro I
  .rw[if_pos (show(p.ai.ag==z.ag)=true from I)]at G;have T:=bX (cx' :=Cm) rfl rfl<|tA {o with aF:=N} p.host z X (by dsimp only;omega);refine⟨[3,5],_,T,⟨rfl,rfl,rfl⟩,M ?_⟩
   refine aN<|M ?_
   exact⟨(k+1,N++[⟨p.host,z⟩]),⟨D,G,by simp;omega⟩,by(show o.w.ah.length-(k+1)<o.w.ah.length-k;omega),aq.keep⟩
  .rw[if_neg<|show ¬(p.ai.ag==z.ag)=true by rw[I];decide,List.append_nil]at G;exact⟨(k+1,N),⟨D,G,by dsimp only;omega⟩,by(show o.w.ah.length-(k+1)<o.w.ah.length-k;omega),aq.keep⟩
 .obtain rfl:k=o.w.ah.length:=by simp at h1;omega
  rw[List.drop_length]at G;have G:N=o.aF++cg z o.w.ah:=by rw[<- G];exact(List.append_nil _).symm
  subst G
  (refine bJ<|M ?_)
  have H:=yh z.ag o.got;have j:bz o.got z.ag=(bH z.ag o.got).getD []:=rfl;cases U:bH z.ag o.got with
  |none =>
   rw[U]at H j;rw[show bH z.ag (je o.got)=none from H];conv=>whnf
   have e:(o.aF++cg z o.w.ah:List al)=(ba o z).aF:=by unfold ba;rw[j];simp[cU]
   refine⟨Unit,λ_=>⟨[(37,aj 0),(38,aj 0)],bK {o with aF:=o.aF++cg z o.w.ah}⟩,λ_=>True,λ_=>0,⟨(),trivial,aq.keep⟩,λ_ _=>M ?_⟩
   refine .inl ⟨[],aq.keep trivial ⟨⟨rfl,rfl⟩,⟨rfl,rfl⟩,⟨congrArg (λr:List al=>some<|Blk.row 72 3<|r.map aP) e,rfl⟩,⟨rfl,rfl⟩,trivial⟩,rfl⟩
  |some l =>
   rw[U]at H j;have j:bz o.got z.ag=l:=j;rw[j]at Z;rw[show bH z.ag (je o.got)=some (.slice 1<|l.map dq)from H];conv=>whnf
   refine⟨Nat,λk=>⟨[(0,.ptr 100034 0),(3,.ptr 3 0),(36,.d<|.slice 1<|l.map dq),(37,aj ((l.map dq).length:Int)),(38,aj k)],(3,.box<|(aV z).map .d)::bK {o with aF:=o.aF++cg z o.w.ah++cU z (l.take k)}⟩,
    λk=>k<=l.length,λk=>l.length-k,⟨0,Nat.zero_le _,aq.keep (by repeat' (first|exact trivial|refine⟨⟨rfl,rfl⟩,?_⟩)) ⟨⟨rfl,rfl⟩,⟨rfl,rfl⟩,⟨rfl,rfl⟩,⟨congrArg (λr:List al=>some<|Blk.row 72 3<|r.map aP)<|by simp[cU],rfl⟩,⟨rfl,rfl⟩,trivial⟩⟩,λk V=>?_⟩
   conv=>whnf
   refine aD ?_ ?_<;>intro I
   .have D:k<l.length:=by simp at I;omega
    obtain⟨n,J⟩:∃n,l[k]? =some n:=⟨_,ao D⟩
    refine⟨aB k,dq n,aL J,M ?_⟩
    have W:(cg z o.w.ah).length<=o.w.ah.length:=by unfold cg;rw[au];exact List.length_filter_le ..
    have T:=bX (cx' :=Cm) rfl rfl<|tA {o with aF:=o.aF++cg z o.w.ah++cU z (l.take k)} n z X (by simp[cU];omega);refine⟨[3],_,T,⟨rfl,rfl,rfl⟩,M ?_⟩
    refine aN<|M ?_
    have e:(o.aF++cg z o.w.ah++cU z (l.take k))++[⟨n,z⟩]=o.aF++cg z o.w.ah++cU z (l.take<|k+1):=by
     unfold cU;rw[List.take_add_one,J];simp
    exact⟨k+1,D,by(show l.length-(k+1)<l.length-k;omega),aq.keep ⟨ae,ae,ae,ae,⟨bj (k:=k)<|by omega,rfl⟩,trivial⟩ ⟨ae,ae,ae,⟨congrArg (λr:List al=>some<|Blk.row 72 3<|r.map aP) e,rfl⟩,ae,trivial⟩⟩
   .obtain rfl:k=l.length:=by simp at I;omega
    have e:(o.aF++cg z o.w.ah++cU z (l.take l.length):List al)=(ba o z).aF:=by unfold ba;rw[j,List.take_length]
    refine .inl ⟨[],aq.keep trivial ⟨⟨rfl,rfl⟩,⟨rfl,rfl⟩,⟨congrArg (λr:List al=>some<|Blk.row 72 3<|r.map aP) e,rfl⟩,⟨rfl,rfl⟩,trivial⟩,rfl⟩
def kY(w:aQ)(g:List<|Bs×List Int)(p:al):Bool:=(decide ((p.ai.af.length:Int)>0)&& !w.ah.any (ff p.host p.ai.ag))&& !(bz g p.ai.ag).contains p.host
def jT(w:aQ)(g:List<|Bs×List Int)(p:al):List<|Bs×List Int:=if kY w g p=true then cy p.ai.ag (bz g p.ai.ag++[p.host]) g else g
def dA(w:aQ)(g:List<|Bs×List Int)(l:List al):List<|Bs×List Int:=l.foldl (jT w) g
def zw{w:aQ}{g:List<|Bs×List Int}{l:List al}{k:Nat}{p:al}(h:l[k]? =some p):dA w g (l.take<|k+1)=jT w (dA w g<|l.take k) p:=by
 unfold dA;rw[List.take_add_one,h,List.foldl_append];rfl
def Ho(a:Bs)(l:List Int):∀g:List (Bs×List Int),cy a (D.slice 1<|l.map dq) (je g)=je (cy a l g)
 |[]=>rfl
 |(k,x)::t=>by
  have:=Ho a l t;show(if a=k then _ else(k,_)::cy a _ (je t))=je (if a=k then(k,l)::t else(k,x)::cy a l t)
  rw[this];split<;>rfl
def ED(a:Bs):∀m:List (List UInt8×D),bH a (amD m)=(bH a m).map .d
 |[]=>rfl
 |(k,x)::t=>by
  have:=ED a t;show(if a=k then _ else bH a<|amD t)=Option.map _ (if a=k then _ else bH a t)
  rw[this];split<;>rfl
def Pe(a:Bs)(s:Nat)(x:D):∀m:List (List UInt8×D),(cy a (AV.own s)<|amD m).map (λq=>(q.1,jv s x q.2))=amD (cy a x m)
 |[]=>by
  show[(a,jv s x<|AV.own s)]=[(a,AV.d x)]
  have:jv s x (AV.own s)= .d x:=by simp[jv]
  rw[this]
 |(k,y)::t=>by
  have:=Pe a s x t;show List.map _ (if a=k then(k,AV.own s)::amD t else(k,AV.d y)::cy a (AV.own s) (amD t))=amD (if a=k then(k,x)::t else(k,y)::cy a x t)
  split
  .have h1:jv s x (AV.own s)= .d x:=by simp[jv]
   rw[List.map_cons,h1];have:∀t:List (List UInt8×D),(amD t).map (λq=>(q.1,jv s x q.2))=amD t:=λt=>by
    unfold amD;rw[List.map_map];rfl
   rw[this];rfl
  .rw[List.map_cons,this];rfl
def OF(a:Bs)(s:Nat)(f:AV->Bool)(h1:f (.own s)=true)(j:∀x,f (.d x)=true):∀m:List (List UInt8×D),(cy a (AV.own s)<|amD m).all (λq=>f q.2)=true
 |[]=>by
  show(f (AV.own s)&&true)=true
  rw[h1];rfl
 |(k,y)::t=>by
  have:=OF a s f h1 j t;have G:∀t:List (List UInt8×D),(amD t).all (λq=>f q.2)=true:=λt=>by
   unfold amD;rw[List.all_map,aG];intro q _;exact j _
  show List.all (if a=k then(k,AV.own s)::amD t else(k,AV.d y)::cy a (AV.own s) (amD t)) _=true
  split
  .rw[List.all_cons,h1,G];rfl
  .rw[List.all_cons,j,this];rfl
def jJ(o:bB):bB:=if o.aF=[]then o else{o with got:=dA o.w o.got o.aF,bu:=o.bu++[o.aF],aF:=[]}
noncomputable def xo:Cx:={cx with chg:=ja [(63,10)],bld:=[63,76]}
def abN:bC xo:=bf
def Ps:xo.P.follows .mixedOrders=true:=mixed
def Dy(o:bB)(hn:o.w.ah.length<=1000)(hp:o.aF.length<=100000)(hs:o.bu.length<=1000)(kc:∀k p,o.aF[k]? =some p->(bz (dA o.w o.got<|o.aF.take k) p.ai.ag).length<=100000)
 (hz:∀p∈o.aF,p.ai.af.length<=100000) (kZ:∀k p,o.aF[k]? =some p->kY o.w (dA o.w o.got<|o.aF.take k) p=true->bH p.ai.ag (dA o.w o.got<|o.aF.take k)=none) :
 FnP xo pvW 65 [.ptr 100034 0] (bK o) (some (.tuple [],bK<|jJ o)):=by
 refine bq [] (fun|5=>[33333,55555]|6=>[55555,66666]|8=>[55555,90040]|_=>[]) abN Ps Tryz.func65 ?_;conv=>whnf
 refine aD ?_ ?_<;>intro h0
 .have hl:o.aF=[]:=by simpa using h0
  have e:jJ o=o:=by unfold jJ;rw[if_pos hl]
  rw[e];exact .inl ⟨[],aq.keep,rfl⟩
 have hA:o.aF≠[]:=by simpa using h0
 have e:jJ o={o with got:=dA o.w o.got o.aF,bu:=o.bu++[o.aF],aF:=[]}:=by unfold jJ;rw[if_neg hA]
 rw[e];refine⟨Nat,λk=>⟨[(0,.ptr 100034 0),(14,.own 90040),(15,aj ((o.aF.map aP).length:Int)),(16,aj k)],bK {o with got:=dA o.w o.got<|o.aF.take k}⟩,
  λk=>k<=o.aF.length,λk=>o.aF.length-k,⟨0,Nat.zero_le _,aq.keep⟩,λk hk=>M ?_⟩
 refine aD ?_ ?_<;>intro h1
 .have J:k<o.aF.length:=by simp at h1;omega
  obtain⟨p,N⟩:∃p,o.aF[k]? =some p:=⟨_,ao J⟩
  have I:=zw (w:=o.w) (g:=o.got) N;have K :=kc k p N;have U :=kZ k p N;have kM:=hz p<|aw N;generalize kR:dA o.w o.got (o.aF.take k)=g at I K U ⊢;refine⟨aB k,by(show k<_;rw[au];exact J),M ?_⟩
  refine⟨aP p,aL N,M ?_⟩
  refine⟨_,aq.keep (sl:=[(0,.ptr 100034 0),(14,.own 90040),(15,aj ((o.aF.map aP).length:Int)),(16,aj k),(3,.ptr 3 0),(4,.d<|.str p.ai.ag)]) (h:=(3,.box<|(aP p).map .d)::bK {o with got:=g}) (by repeat' (first|exact trivial|refine⟨⟨rfl,rfl⟩,?_⟩)) ⟨⟨rfl,rfl⟩,⟨rfl,rfl⟩,⟨congrArg (λg=>some<|Blk.smap<|je g) kR,rfl⟩,⟨rfl,rfl⟩,⟨rfl,rfl⟩,trivial⟩,?_⟩;conv=>whnf
  (refine cn<|M ?_)
  have H:kY o.w g p=false->g=dA o.w o.got (o.aF.take<|k+1):=λh=>by rw[I];unfold jT;rw[if_neg<|by rw[h];decide]
  have hC:=bZ (pv' :=pvW) (bX (cx' :=xo) rfl rfl<|mK o.w p.host p.ai.ag<|by omega);have T:=yh p.ai.ag g;have D:bz g p.ai.ag=(bH p.ai.ag g).getD []:=rfl;have G:kY o.w g p=((decide ((p.ai.af.length:Int)>0)&& !o.w.ah.any (ff p.host p.ai.ag))&& !(bz g p.ai.ag).contains p.host):=rfl;refine aD ?_ ?_<;>intro V
  .have V:decide ((p.ai.af.length:Int)>0)=true:=by simpa using V
   rw[V]at G;generalize o.w.ah.any (ff p.host p.ai.ag)=b at hC G;refine⟨[3,100034,90032,90040,90041],_,hC,⟨rfl,rfl,rfl⟩,M ?_⟩
   refine aN<|M ?_
   cases b with
   |true =>
    have j:=H (by rw[G];rfl);conv=>whnf
    exact⟨k+1,J,by(show o.aF.length-(k+1)<o.aF.length-k;omega),aq.keep ⟨ae,ae,ae,⟨bj (k:=k)<|by omega,rfl⟩,trivial⟩ ⟨ae,⟨congrArg (λg=>some<|Blk.smap<|je g) j,rfl⟩,ae,ae,trivial⟩⟩
   |false =>
   conv=>whnf
   cases X:bH p.ai.ag g with
   |none =>
    rw[X]at T D;rw[show bH p.ai.ag (je g)=none from T];conv=>whnf
    have D:bz g p.ai.ag=[]:=D;rw[D]at G
    (refine⟨_,_,lh [] p.host<|by simp,M ?_⟩)
    have j:dA o.w o.got (o.aF.take<|k+1)=cy p.ai.ag [p.host] g:=by rw[I];unfold jT;rw[if_pos<|by rw[G];rfl,D];rfl
    refine⟨_,(aq.keep (sl:=[(0,.ptr 100034 0),(14,.own 90040),(15,aj ((o.aF.map aP).length:Int)),(16,aj k),(3,.ptr 3 0),(4,.d<|.str p.ai.ag)]) (h:=(3,.box<|(aP p).map .d)::bK {o with got:=g})).trans (aI.Vi 90032 (je g) rfl).toP,M ?_⟩
    (refine cn<|M ?_)
    refine⟨none,by rw[ED,T];rfl,M ?_⟩
    repeat (refine db<|M ?_)
    refine⟨bA rfl,bA rfl,M ?_⟩
    repeat (refine db<|M ?_)
    have Y:(cy p.ai.ag (AV.own 64)<|amD<|je g).map (λq=>(q.1,jv 64 (.slice 1 [[.int .i64 p.host]]) q.2))=amD (je<|dA o.w o.got<|o.aF.take<|k+1):=by
     rw[Pe,j, <- Ho];rfl
    refine⟨k+1,J,by(show o.aF.length-(k+1)<o.aF.length-k;omega),?_⟩;refine aq.trans (b:=⟨[(0,.ptr 100034 0),(14,.own 90040),(15,aj ((o.aF.map aP).length:Int)),(16,aj ((k+1:Nat):Int))],[(100034,.box<|XG true {o with got:=g}),(90032,.dR<|cy p.ai.ag (AV.own 64)<|amD<|je g),(64,.row 3 1 [[.int .i64 p.host]]),(90040,.row 72 3<|o.aF.map aP),(90041,.row 63 1<|o.bu.map dK)]⟩) (aq.keep ⟨ae,ae,ae,⟨bj (k:=k)<|by omega,rfl⟩,trivial⟩ ⟨ae,⟨rfl,OF _ _ _ rfl (λ_=>rfl) _⟩,ae,ae,ae,trivial⟩) ?_;refine aq.trans (aq.vK [64]) ?_
    refine aq.trans (aI.toP<|aI.Uw 90032 (je<|dA o.w o.got<|o.aF.take<|k+1) ?_) ?_
    .exact congrArg (λm=>some<|Blk.dR m) Y
    .exact aq.keep
   |some l =>
    rw[X]at T D;have D:bz g p.ai.ag=l:=D;rw[show bH p.ai.ag (je g)=some (.slice 1<|l.map dq)from T];conv=>whnf
    rw[D]at K
    (refine⟨_,_,lh l p.host K,M ?_⟩)
    cases hc:l.contains p.host with
    |false =>
     have:=U (by rw[G,D,hc];rfl);rw[X]at this;cases this
    |true =>
     have j:=H (by rw[G,D,hc];rfl);conv=>whnf
     exact⟨k+1,J,by(show o.aF.length-(k+1)<o.aF.length-k;omega),aq.keep ⟨ae,ae,ae,⟨bj (k:=k)<|by omega,rfl⟩,trivial⟩ ⟨ae,⟨congrArg (λg=>some<|Blk.smap<|je g) j,rfl⟩,ae,ae,trivial⟩⟩
  .have V:decide ((p.ai.af.length:Int)>0)=false:=by simpa using V
   have j:=H (by rw[G,V];rfl);exact⟨k+1,J,by(show o.aF.length-(k+1)<o.aF.length-k;omega),aq.keep ⟨ae,ae,ae,⟨bj (k:=k)<|by omega,rfl⟩,trivial⟩ ⟨ae,⟨congrArg (λg=>some<|Blk.smap<|je g) j,rfl⟩,ae,ae,trivial⟩⟩
 .obtain rfl:k=o.aF.length:=by simp at h1;omega
  have Z:dA o.w o.got (o.aF.take o.aF.length)=dA o.w o.got o.aF:=by rw[List.take_length]
  refine⟨_,aq.keep (sl:=[(0,.ptr 100034 0)]) (h:=bK {o with got:=dA o.w o.got o.aF}) (by repeat' (first|exact trivial|refine⟨⟨rfl,rfl⟩,?_⟩)) ⟨⟨rfl,rfl⟩,⟨congrArg (λg=>some<|Blk.smap<|je g) Z,rfl⟩,⟨rfl,rfl⟩,⟨rfl,rfl⟩,trivial⟩,?_⟩;conv=>whnf
  (refine bJ<|M ?_)
  refine⟨by simp;omega,by simp;omega,M ?_⟩
  have W:(o.bu.map dK)++[[.slice 3<|o.aF.map aP]]=(o.bu++[o.aF]).map dK:=by rw[List.map_append];rfl
  refine iu (aq.trans (b:=⟨[(0,.ptr 100034 0)],[(100034,.box<|(bF o.w).map .d++[aj o.since,aj o.aT,.d<|.str o.ai.ag,.d<|.slice 5<|o.ai.af.map an,aj o.aJ,.omap 90032,.nil 3,.own 90041]),(90032,.smap<|je<|dA o.w o.got o.aF),(90041,.row 63 1<|(o.bu++[o.aF]).map dK)]⟩) (aq.keep (by repeat' (first|exact trivial|refine⟨⟨rfl,rfl⟩,?_⟩)) ⟨⟨rfl,rfl⟩,⟨rfl,rfl⟩,⟨congrArg (λr=>some<|Blk.row 63 1 r) W,rfl⟩,trivial⟩)<|aq.jy 100034 13 90040 3 _ 72 3 rfl rfl rfl<|by decide) rfl rfl rfl
abbrev xB(a:Bs):Option (List Int)->List (Bs×List Int)
 |none=>[]
 |some l=>[(a,l)]
abbrev FP(o:bB)(a:Bs):Option (List Int)->List (Nat×Blk)
 |none=>bK {o with got:=[]}
 |some l=>[(100034,.box<|XG true o),(90032,.dR [(a,.own 90060)]),(90060,.row 3 1<|l.map dq),(90040,.row 72 3<|o.aF.map aP),(90041,.row 63 1<|o.bu.map dK)]
def Bx(o:bB)(a:Bs)(hn:o.w.ah.length<=1000)(hp:o.aF.length<=1000)(hs:o.bu.length<=1000)(hg:o.got=[])(hz:∀p∈o.aF,p.ai.af.length<=100000)(ha:∀p∈o.aF,p.ai.ag=a) :
 FnP xo pvW 65 [.ptr 100034 0] (bK o) (some (.tuple [],bK<|jJ o)):=by
 refine bq [] (fun|5=>[33333,55555]|6=>[55555,66666]|8=>[55555,90040]|_=>[]) abN Ps Tryz.func65 ?_;conv=>whnf
 refine aD ?_ ?_<;>intro h0
 .have hl:o.aF=[]:=by simpa using h0
  have e:jJ o=o:=by unfold jJ;rw[if_pos hl]
  rw[e];exact .inl ⟨[],aq.keep,rfl⟩
 have hA:o.aF≠[]:=by simpa using h0
 have e:jJ o={o with got:=dA o.w [] o.aF,bu:=o.bu++[o.aF],aF:=[]}:=by unfold jJ;rw[if_neg hA,hg]
 rw[e];refine⟨Nat×Option (List Int),λq=>⟨[(0,.ptr 100034 0),(14,.own 90040),(15,aj ((o.aF.map aP).length:Int)),(16,aj q.1)],FP o a q.2⟩,
  λq=>q.1<=o.aF.length/\dA o.w [] (o.aF.take q.1)=xB a q.2/\(q.2.getD []).length<=q.1,λq=>o.aF.length-q.1,⟨(0,none),⟨Nat.zero_le _,rfl,Nat.le_refl _⟩,aq.keep (by repeat' (first|exact trivial|refine⟨⟨rfl,rfl⟩,?_⟩)) ⟨⟨rfl,rfl⟩,⟨congrArg (λg=>some<|Blk.smap<|je g) hg,rfl⟩,⟨rfl,rfl⟩,⟨rfl,rfl⟩,trivial⟩⟩,?_⟩
 rintro⟨k,g⟩ ⟨hk,K,T⟩;dsimp only at hk K T;have kE:∀p,o.aF[k]? =some p->k<o.aF.length:=λp h=>(aA.1 h).1
 cases g with
 |none =>
  conv=>whnf
  refine aD ?_ ?_<;>intro h1
  .have I:k<o.aF.length:=by simp at h1;omega
   obtain⟨p,J⟩:∃p,o.aF[k]? =some p:=⟨_,ao I⟩
   have D:=zw (w:=o.w) (g:=[]) J;rw[K]at D;have kM:=hz p<|aw J;have V:=ha p<|aw J;subst V;refine⟨aB k,by(show k<_;rw[au];exact I),M ?_⟩
   refine⟨aP p,aL J,M ?_⟩
   refine⟨_,aq.keep (sl:=[(0,.ptr 100034 0),(14,.own 90040),(15,aj ((o.aF.map aP).length:Int)),(16,aj k),(3,.ptr 3 0),(4,.d<|.str p.ai.ag)]) (h:=(3,.box<|(aP p).map .d)::FP o p.ai.ag none),M ?_⟩
   (refine cn<|M ?_)
   have H:kY o.w [] p=false->dA o.w [] (o.aF.take<|k+1)=xB p.ai.ag none:=λh=>by rw[D];unfold jT;rw[if_neg<|by rw[h];decide]
   have Y:=bZ (pv' :=pvW) (bX (cx' :=xo) rfl rfl<|mK o.w p.host p.ai.ag<|by omega);have G:kY o.w [] p=((decide ((p.ai.af.length:Int)>0)&& !o.w.ah.any (ff p.host p.ai.ag))&& !([]:List Int).contains p.host):=rfl;refine aD ?_ ?_<;>intro N
   .have N:decide ((p.ai.af.length:Int)>0)=true:=by simpa using N
    rw[N]at G;generalize o.w.ah.any (ff p.host p.ai.ag)=b at Y G;refine⟨[3,100034,90032,90040,90041],_,Y,⟨rfl,rfl,rfl⟩,M ?_⟩
    refine aN<|M ?_
    cases b with
    |true =>
     have j:=H (by rw[G];rfl);conv=>whnf
     exact⟨(k+1,none),⟨I,j,Nat.zero_le _⟩,by(show o.aF.length-(k+1)<o.aF.length-k;omega),aq.keep⟩
    |false =>
    conv=>whnf
    (refine⟨_,_,lh [] p.host<|by simp,M ?_⟩)
    have j:dA o.w [] (o.aF.take<|k+1)=xB p.ai.ag (some [p.host]):=by rw[D];unfold jT;rw[if_pos<|by rw[G];rfl];rfl
    refine⟨_,(aq.keep (sl:=[(0,.ptr 100034 0),(14,.own 90040),(15,aj ((o.aF.map aP).length:Int)),(16,aj k),(3,.ptr 3 0),(4,.d<|.str p.ai.ag)]) (h:=(3,.box<|(aP p).map .d)::FP o p.ai.ag none)).trans (aI.Vi 90032 [] rfl).toP,M ?_⟩
    (refine cn<|M ?_)
    refine⟨none,rfl,M ?_⟩
    repeat (refine db<|M ?_)
    refine⟨bA rfl,bA rfl,M ?_⟩
    repeat (refine db<|M ?_)
    refine⟨(k+1,some [p.host]),⟨I,j,by(show 1<=k+1;omega)⟩,by(show o.aF.length-(k+1)<o.aF.length-k;omega),?_⟩;refine aq.trans (aq.name 64 90060 rfl rfl) ?_;exact aq.keep
   .have N:decide ((p.ai.af.length:Int)>0)=false:=by simpa using N
    have j:=H (by rw[G,N];rfl);exact⟨(k+1,none),⟨I,j,Nat.zero_le _⟩,by(show o.aF.length-(k+1)<o.aF.length-k;omega),aq.keep⟩
  .obtain rfl:k=o.aF.length:=by simp at h1;omega
   have W:dA o.w [] o.aF=[]:=by rw[List.take_length]at K;exact K
   rw[W];refine⟨_,aq.keep (sl:=[(0,.ptr 100034 0)]) (h:=bK {o with got:=[]}),M ?_⟩
   (refine bJ<|M ?_)
   refine⟨by simp;omega,by simp;omega,M ?_⟩
   have U:(o.bu.map dK)++[[.slice 3<|o.aF.map aP]]=(o.bu++[o.aF]).map dK:=by rw[List.map_append];rfl
   refine iu (aq.trans (b:=⟨[(0,.ptr 100034 0)],[(100034,.box<|(bF o.w).map .d++[aj o.since,aj o.aT,.d<|.str o.ai.ag,.d<|.slice 5<|o.ai.af.map an,aj o.aJ,.omap 90032,.nil 3,.own 90041]),(90032,.smap []),(90041,.row 63 1<|(o.bu++[o.aF]).map dK)]⟩) (aq.keep (by repeat' (first|exact trivial|refine⟨⟨rfl,rfl⟩,?_⟩)) ⟨⟨rfl,rfl⟩,⟨rfl,rfl⟩,⟨congrArg (λr=>some<|Blk.row 63 1 r) U,rfl⟩,trivial⟩)<|aq.jy 100034 13 90040 3 _ 72 3 rfl rfl rfl<|by decide) rfl rfl rfl
 |some l =>
  have hI:l.length<=1000:=by have:l.length<=k:=T;omega
  conv=>whnf
  refine aD ?_ ?_<;>intro h1
  .have I:k<o.aF.length:=by simp at h1;omega
   obtain⟨p,J⟩:∃p,o.aF[k]? =some p:=⟨_,ao I⟩
   have D:=zw (w:=o.w) (g:=[]) J;rw[K]at D;have kM:=hz p<|aw J;have V:=ha p<|aw J;subst V;have hJ:bz (xB p.ai.ag<|some l) p.ai.ag=l:=by
    unfold bz;show Option.getD (if p.ai.ag=p.ai.ag then some l else none) []=l
    rw[if_pos rfl];rfl
   refine⟨aB k,by(show k<_;rw[au];exact I),M ?_⟩
   refine⟨aP p,aL J,M ?_⟩
   refine⟨_,aq.keep (sl:=[(0,.ptr 100034 0),(14,.own 90040),(15,aj ((o.aF.map aP).length:Int)),(16,aj k),(3,.ptr 3 0),(4,.d<|.str p.ai.ag)]) (h:=(3,.box<|(aP p).map .d)::FP o p.ai.ag (some l)),M ?_⟩
   (refine cn<|M ?_)
   have H:kY o.w (xB p.ai.ag<|some l) p=false->dA o.w [] (o.aF.take<|k+1)=xB p.ai.ag (some l):=λh=>by rw[D];unfold jT;rw[if_neg<|by rw[h];decide]
   have Y:=bZ (pv' :=pvW) (bX (cx' :=xo) rfl rfl<|mK o.w p.host p.ai.ag<|by omega);have G:kY o.w (xB p.ai.ag<|some l) p=((decide ((p.ai.af.length:Int)>0)&& !o.w.ah.any (ff p.host p.ai.ag))&& !(bz (xB p.ai.ag<|some l) p.ai.ag).contains p.host):=rfl;rw[hJ]at G;have Z:bH p.ai.ag [(p.ai.ag,AV.own 90060)]=some (.own 90060):=if_pos rfl;refine aD ?_ ?_<;>intro N
   .have N:decide ((p.ai.af.length:Int)>0)=true:=by simpa using N
    rw[N]at G;generalize o.w.ah.any (ff p.host p.ai.ag)=b at Y G;refine⟨[3,100034,90032,90040,90041,90060],_,Y,⟨rfl,rfl,rfl⟩,M ?_⟩
    refine aN<|M ?_
    cases b with
    |true =>
     have j:=H (by rw[G];rfl);conv=>whnf
     exact⟨(k+1,some l),⟨I,j,by(show l.length<=k+1;have:l.length<=k:=T;omega)⟩,by(show o.aF.length-(k+1)<o.aF.length-k;omega),aq.keep⟩
    |false =>
    conv=>whnf
    refine⟨_,Z,M ?_⟩
    refine⟨_,lh l p.host<|by omega,by kernel_rfl,M ?_⟩
    cases hc:l.contains p.host with
    |true =>
     have j:=H (by rw[G,hc];rfl);conv=>whnf
     exact⟨(k+1,some l),⟨I,j,by(show l.length<=k+1;have:l.length<=k:=T;omega)⟩,by(show o.aF.length-(k+1)<o.aF.length-k;omega),aq.keep⟩
    |false =>
    conv=>whnf
    have j:dA o.w [] (o.aF.take<|k+1)=xB p.ai.ag (some<|l++[p.host]):=by
     rw[D];unfold jT;rw[if_pos<|by rw[G,hc];rfl,hJ];show(if p.ai.ag=p.ai.ag then _ else _)=_
     rw[if_pos rfl]
    have xb:cy p.ai.ag (AV.own 90060) [(p.ai.ag,AV.undef)]=[(p.ai.ag,AV.own 90060)]:=if_pos rfl;refine⟨_,aq.keep (sl:=[(0,.ptr 100034 0),(14,.own 90040),(15,aj ((o.aF.map aP).length:Int)),(16,aj k),(3,.ptr 3 0),(4,.d<|.str p.ai.ag)]) (h:=(3,.box<|(aP p).map .d)::FP o p.ai.ag (some l)),M ?_⟩
    (refine cn<|M ?_)
    refine⟨_,Z,M ?_⟩
    repeat (refine db<|M ?_)
    refine⟨by simp;omega,by simp;omega,M ?_⟩
    repeat (refine db<|M ?_)
    have X:(l.map dq)++[[.int .i64 p.host]]=(l++[p.host]).map dq:=by rw[List.map_append];rfl
    exact⟨(k+1,some<|l++[p.host]),⟨I,j,by(show(l++[p.host]).length<=k+1;have:l.length<=k:=T;simp;omega)⟩,by(show o.aF.length-(k+1)<o.aF.length-k;omega),aq.keep ⟨ae,ae,ae,⟨bj (k:=k)<|by omega,rfl⟩,trivial⟩ ⟨ae,⟨congrArg (λm=>some<|Blk.dR m) xb,rfl⟩,⟨congrArg (λr=>some<|Blk.row 3 1 r) X,rfl⟩,ae,ae,trivial⟩⟩
   .have N:decide ((p.ai.af.length:Int)>0)=false:=by simpa using N
    have j:=H (by rw[G,N];rfl);exact⟨(k+1,some l),⟨I,j,by(show l.length<=k+1;have:l.length<=k:=T;omega)⟩,by(show o.aF.length-(k+1)<o.aF.length-k;omega),aq.keep⟩
  .obtain rfl:k=o.aF.length:=by simp at h1;omega
   have W:dA o.w [] o.aF=[(a,l)]:=by rw[List.take_length]at K;exact K
   rw[W];refine⟨_,aq.trans (aq.keep (sl:=[(0,.ptr 100034 0)]) (h:=FP o a<|some l))<|aq.vK [90060],M ?_⟩
   (refine bJ<|M ?_)
   refine⟨by simp;omega,by simp;omega,M ?_⟩
   have U:(o.bu.map dK)++[[.slice 3<|o.aF.map aP]]=(o.bu++[o.aF]).map dK:=by rw[List.map_append];rfl
   refine iu (aq.trans (b:=⟨[(0,.ptr 100034 0)],[(100034,.box<|(bF o.w).map .d++[aj o.since,aj o.aT,.d<|.str o.ai.ag,.d<|.slice 5<|o.ai.af.map an,aj o.aJ,.omap 90032,.nil 3,.own 90041]),(90032,.dR<|amD<|je [(a,l)]),(90041,.row 63 1<|(o.bu++[o.aF]).map dK)]⟩) (aq.keep (by repeat' (first|exact trivial|refine⟨⟨rfl,rfl⟩,?_⟩)) ⟨⟨rfl,rfl⟩,⟨rfl,rfl⟩,⟨congrArg (λr=>some<|Blk.row 63 1 r) U,rfl⟩,trivial⟩)<|aq.trans (aI.toP<|aI.Uw 90032 (je [(a,l)]) rfl)<|aq.jy 100034 13 90040 3 _ 72 3 rfl rfl rfl<|by decide) rfl rfl rfl
end Go.Proofs.YtjojkakjmoefaaaGreatDoor

namespace NQ
open Go Go.RowKit
def QO{cx:Cx}{pv:Int->Value}{f:FuncId}{e:TypeId}{sz s:Nat}{rows I :List<|List D}{fl fl' :Bool}{args:List D}(h:FnP cx pv f (.own s::args.map .d) [(s,.row e sz rows fl)]<|some (.own s,[(s,.row e sz I fl')])):FnR cx f true e sz rows fl args I :=by
 refine⟨h.1,λO w v vs xs hO hG T hv h1 h2 h3 h4 h5 h6 h7=>?_⟩;have H:∀{b:Blk} {x:Nat},live [(s,b)] x ↔ x=s:=λ{b x}=>cN
 have U:∀{b:Blk} {τ:Nat->Value} {g:Nat},dX [(s,b)] τ g ↔ home (τ s)=some g:=λ{b τ g}=>by
  constructor
  .rintro⟨x,X,e⟩;rw[H.1 X]at e;exact e
  .intro e;exact⟨s,H.2 rfl,e⟩
 have hk:∀{b:Blk},bx w w O (Own (λb=>O b/\home v≠some b) (live [(s,b)]) λ_=>v):=λ{b}=>bx.less λb G=>by
  rcases G with G|⟨x,_,e⟩
  .exact G.1
  .exact hv b e
 refine(h.2 (λb=>O b/\home v≠some b) w (λ_=>v) (#[v]++vs) (λb G=>hO b G.1) hG (λg cells Y=>⟨λG=>T g cells Y G.1,λG=>T g cells Y<|hv g<|U.1 G⟩) (λb G J=>G.2<|U.1 J) ⟨λx b G=>?_,λx y b X hy _ _=>by rw[H.1 X,H.1 hy]⟩ (by simp[h6,Nat.add_comm]) λj c K=>?_).mono λen w' =>?_
 .have X:x=s:=H.1<|aH.2 ⟨b,G⟩;subst X;rw[bo]at G;cases G;refine⟨xs,h1,λb G=>U.2 G,⟨h3,h2⟩,h4,λi r j d hi K=>?_⟩;obtain⟨u,W,N⟩:=h5 i r j d hi K;exact⟨u,W,N.mono hk⟩
 .rcases j with _|j
  .cases K;have:(#[v]++vs).getD 0 Go.undef=v:=by simp[bU,Array.getElem?_append]
   rw[this];exact .own (σ:=λ_=>v) s<|H.2 rfl
  .rw[List.getElem?_cons_succ,bc]at K;cases N:args[j]? with
   |none=>rw[N]at K;cases K
   |some d =>
    rw[N]at K;cases K;have xl:j<vs.size:=by rw[h6];exact(aA.1 N).1
    have:(#[v]++vs).getD (j+1) Go.undef=vs.getD j Go.undef:=by simp[Array.getElem?_append,bU]
    rw[this];exact .d _ _<|(h7 j d N).mono hk
 .rintro⟨V,u,σ',rfl,Z,_,hr⟩;obtain⟨ks,q1,q2,q3,q4,q5⟩:=Z.blk s _ (bo ..);have W:u=σ' s:=by generalize hz:σ' s=z;cases hr;exact hz
  subst W;refine⟨σ' s,ks,rfl,V.os,V.tape,V.output,V.size,λk hk hA=>V.block k λJ=>?_,λg Y=>?_,q1,q4,λi r j d hi K=>?_⟩
  .rcases J with J|J
   .exact hA<|U.1 J
   .omega
  .rcases q2 g Y with J|J
   .exact .inl<|U.1 J
   .exact .inr J
  .obtain⟨u,W,N⟩:=q5 i r j d hi K;refine⟨u,W,N.mono (bx.less λb G=>?_)⟩;rcases G with G|G
   .exact .inl G
   .exact .inr ⟨s,H.2 rfl,G⟩
end NQ

namespace NQ
open Go
def FnR.abZ{cx:Cx}{f:FuncId}{fe:Bool}{e:TypeId}{sz:Nat}{rows:List<|List D}{fl:Bool}{args:List D}{j :List<|List D}(h:FnR cx f fe e sz rows false args j):FnR cx f fe e sz rows fl args j :=⟨h.1,λO w v vs xs a b c d G H =>h.2 O w v vs xs a b c d G λh=>by cases h⟩
end NQ

namespace Go.Proofs.YtjojkakjmoefaaaGreatDoor
open NQ Go.RowKit
def eB:List Datum->List Datum
 |[]=>[]
 |[a]=>[a]
 |a::b::t=>if a=b then eB (b::t)else a::eB (b::t)
def oH(l:List Datum)(m:Nat):List Datum:=((List.range m).filter λj=>decide (j=0)|| !decide (l[j]? =l[j-1]?)).filterMap (l[·]?)
def Gx(l:List Datum)(m:Nat):oH l (m+1)=oH l m++(if decide (m=0)|| !decide (l[m]? =l[m-1]?)then l[m]?.toList else[]):=by
 unfold oH;rw[List.range_succ,List.filter_append,List.filterMap_append]
 congr 1
 by_cases h:(decide (m=0)|| !decide (l[m]? =l[m-1]?))=true
 .rw[if_pos h,List.filter_cons,if_pos h];cases j:l[m]?<;>simp[j]
 .rw[if_neg h,List.filter_cons,if_neg h];rfl
def Gw(a:Datum)(t:List Datum):∀m,oH (a::t) (m+1)=a::(((List.range m).filter λj=> !decide (t[j]? =(a::t)[j]?)).filterMap (t[·]?)):=by
 intro m;unfold oH;rw[List.range_succ_eq_map,List.filter_cons_of_pos<|by simp,List.filterMap_cons_some (b:=a)<|by simp,List.filter_map,List.filterMap_map]
 congr 1
def AD(a b:Datum):(a.text==b.text&&(a.n==b.n&&(a.m==b.m&&true)))=decide (a=b):=by
 cases a with|mk t n m =>
 cases b with|mk t' H G =>
 simp only[gF,Datum.mk.injEq];by_cases h1:t=t'<;>by_cases j:n=H<;>by_cases D:m=G<;>simp[h1,j,D]
def Wf(l:List Datum)(h:1<=l.length):oH l 1=l.take 1:=by
 match l,h with
 |a::t,_=>rfl
variable {l:List Datum}
def JD{m:Nat}{a b:Datum}(j:l[m]? =some a)(D:l[m-1]? =some b)(h:a≠b):oH l (m+1)=oH l m++[a]:=by
 rw[Gx,j,D,if_pos<|by simp[h]];rfl
def JE{m:Nat}{a b:Datum}(G:1<=m)(j:l[m]? =some a)(D:l[m-1]? =some b)(h:a=b):oH l (m+1)=oH l m:=by
 rw[Gx,j,D,if_neg<|by simp[h];omega,List.append_nil]
def sn:∀l:List Datum,oH l l.length=eB l
 |[]=>rfl
 |[a]=>rfl
 |a::b::t=>by
  have G:=sn<|b::t;show oH (a::b::t) (t.length+1+1)=_
  rw[List.length_cons]at G;rw[Gw,List.range_succ_eq_map];rw[Gw]at G;show _=if a=b then eB (b::t)else a::eB (b::t)
  have D:List.filterMap (λx=>(b::t)[x]?) (List.filter (λj=> !decide ((b::t)[j]? =(a::b::t)[j]?))<|List.map Nat.succ<|List.range t.length)=List.filterMap (λx=>t[x]?) (List.filter (λj=> !decide (t[j]? =(b::t)[j]?))<|List.range t.length):=by
   rw[List.filter_map,List.filterMap_map];rfl
  by_cases e:a=b
  .subst e;rw[if_pos rfl,List.filter_cons_of_neg<|by simp,D,G]
  .rw[if_neg e,List.filter_cons_of_pos<|by simpa using λh=>e h.symm,List.filterMap_cons_some (b:=b)<|by simp,D,G]
noncomputable def Wr:Cx:={cx with bld:=[777001]}
def acu:bC Wr:=bf
def aah:Wr.P.follows .mixedOrders=true:=mixed
def JG(l:List Datum)(hl:l.length<=100000)(fl:Bool):FnR cx 76 true 86 3 (l.map aS) fl []<|(eB l).map aS:=by
 refine FnR.abZ<|abe (cx:=Wr) rfl rfl<|QO (pv:=pv0) (s:=90020) (fl' :=false) ?_;refine bq [] (fun|7=>[33333]|14=>[33333]|15=>[33333]|_=>[]) acu aah Tryz.func76 ?_;conv=>whnf
 refine aD ?_ ?_<;>intro h1
 .have h2:l.length<2:=by simp at h1;omega
  have h3:eB l=l:=by
   match l,h2 with
   |[],_=>rfl
   |[a],_=>rfl
  rw[h3];exact ck rfl rfl rfl
 have h2:2<=l.length:=by simp at h1;omega
 refine⟨Nat,λk=>⟨[(0,.own 90020),(3,aj k)],[(90020,.row 86 3<|l.map aS)]⟩,λk=>1<=k/\k<=l.length/\oH l k=l.take k,λk=>l.length-k,
  ⟨1,⟨Nat.le_refl _,by omega,?_⟩,aq.keep⟩,?_⟩
 .exact Wf l (by omega)
 rintro k ⟨Y,hk,hc⟩;conv=>whnf
 refine aD ?_ ?_<;>intro h3
 .have K:k<l.length:=by simp at h3;omega
  obtain⟨a,ha⟩:∃a,l[k]? =some a:=⟨_,ao K⟩
  obtain⟨b,hb⟩:∃b,l[k-1]? =some b:=⟨_,ao<|by omega⟩
  have kJ:∀q:Nat,1<=q->q<=100000->IntKind.i64.wrap ((q:Int)-1)=((q-1:Nat):Int):=λq h1 h2=>by
   rw[show((q:Int)-1)=((q-1:Nat):Int) by omega];exact wrap_i64 (by omega) (by omega)
  (refine bJ<|M ?_)
  refine⟨aB k,by(show k<_;rw[au];exact K),M ?_⟩
  refine⟨aS a,aL ha,M ?_⟩
  rw[kJ k Y<|by omega];refine⟨aB _,by(show k-1<_;rw[au];omega),M ?_⟩
  refine⟨aS b,aL hb,M ?_⟩
  refine aD ?_ ?_<;>intro V
  .have T:a=b:=by rw[AD]at V;exact of_decide_eq_true V
   refine⟨aB k,by(show k<_;rw[au];exact K),M ?_⟩
   refine⟨Nat×Nat×List Datum,λq=>⟨[(0,.own 90020),(3,aj q.1),(4,.tl 90020 3 k),(5,aj q.2.1)],[(90020,.row 86 3<|q.2.2.map aS)]⟩,
    λq=>(1<=q.2.1/\k+q.2.1<=l.length/\q.1<k+q.2.1)/\q.2.2.length=l.length/\q.2.2.take q.1=oH l (k+q.2.1)/\q.2.2.drop q.1=l.drop q.1,λq=>l.length-q.2.1,
    ⟨(k,1,l),⟨⟨Nat.le_refl _,by dsimp only;omega,by dsimp only;omega⟩,rfl,by dsimp only;rw[JE Y ha hb T,hc],rfl⟩,aq.keep⟩,?_⟩
   rintro⟨G,H,R⟩ ⟨⟨Z,kT,kU⟩,I,W,hD⟩;dsimp only at Z kT kU I W hD;have N:∀j,G<=j->R[j]? =l[j]? :=λj hj=>by
    have:=congrArg (λq=>q[j-G]?) hD;simpa [List.getElem?_drop,show G+(j-G)=j by omega] using this
   conv=>whnf
   refine aD ?_ ?_<;>intro h5
   .have J:k+H<l.length:=by simp[I]at h5;omega
    obtain⟨x,hx⟩:∃x,l[k+H]? =some x:=⟨_,ao J⟩
    obtain⟨y,hy⟩:∃y,l[k+H-1]? =some y:=⟨_,ao<|by omega⟩
    have kK :R[k+H]? =some x:=by rw[N _<|by omega];exact hx
    have xi :R[k+(H-1)]? =some y:=by rw[N _<|by omega,show k+(H-1)=k+H-1 by omega];exact hy
    (refine bJ<|M ?_)
    refine⟨aB H,by(show k+H<_;rw[au,I];exact J),M ?_⟩
    refine⟨aS x,aL kK,M ?_⟩
    rw[kJ H Z<|by omega];refine⟨aB _,by(show k+(H-1)<_;rw[au,I];omega),M ?_⟩
    refine⟨aS y,aL xi,M ?_⟩
    refine aD ?_ ?_<;>intro h6
    .have U:x≠y:=by rw[AD]at h6;intro e;simp[e]at h6
     refine⟨aB H,by(show k+H<_;rw[au,I];exact J),M ?_⟩
     refine⟨aS x,aL kK,M ?_⟩
     refine⟨aB G,by(show G<_;rw[au,I];omega),M ?_⟩
     obtain⟨z,hz⟩:∃z,R[G]? =some z:=⟨_,ao<|by omega⟩
     refine⟨aS z,aL hz,M ?_⟩
     refine⟨(G+1,H+1,R.set G x),⟨⟨by dsimp only;omega,by dsimp only;omega,by dsimp only;omega⟩,by(show(R.set G x).length=_;rw[List.length_set,I]),?_,?_⟩,by(show l.length-(H+1)<l.length-H;omega),aq.keep ⟨ae,⟨bj (k:=G)<|by omega,rfl⟩,ae,⟨bj (k:=H)<|by omega,rfl⟩,trivial⟩ ⟨⟨congrArg (λr=>some<|Blk.row 86 3 r) (List.map_set (f:=aS) (l:=R) (i:=G) (a:=x)).symm,rfl⟩,trivial⟩⟩
     .show(R.set G x).take (G+1)=oH l (k+H+1)
      rw[JD hx hy U, <- W,List.take_add_one,List.getElem?_set_self<|by omega,List.take_set_of_le<|Nat.le_refl _];rfl
     .show(R.set G x).drop (G+1)=_
      rw[List.drop_set_of_lt<|by omega, <- List.drop_drop, <- List.drop_drop,hD]
    .have U:x=y:=by rw[AD]at h6;simpa using h6
     refine⟨(G,H+1,R),⟨⟨by dsimp only;omega,by dsimp only;omega,by dsimp only;omega⟩,I,?_,hD⟩,by(show l.length-(H+1)<l.length-H;omega),aq.keep ⟨ae,ae,ae,⟨bj (k:=H)<|by omega,rfl⟩,trivial⟩⟩;show R.take G=oH l (k+H+1)
     rw[JE (by omega) hx hy U,W]
   .have X:k+H=l.length:=by simp[I]at h5;omega
    rw[X,sn]at W;refine⟨aB G,by(show G<_;rw[au,I];omega),M ?_⟩
    refine⟨by(show G<_;rw[au,I];omega),M ?_⟩
    refine⟨aB G,by(show G<_;rw[List.length_append,List.length_take,List.length_replicate,au,I];omega),M ?_⟩
    have kk:∀z:List D,((R.map aS).take G++List.replicate ((R.map aS).length-G) z).take G=(eB l).map aS:=λz=>by
     rw[List.take_append_of_le_length<|by rw[List.length_take,au,I];omega,List.take_take,Nat.min_self, <- List.map_take,W]
    refine iu (aq.keep (sl:=[(2,.own 90020)]) (h:=[(90020,.row 86 3<|(eB l).map aS)]) (by repeat' (first|exact trivial|refine⟨⟨rfl,rfl⟩,?_⟩)) ⟨⟨congrArg (λr=>some<|Blk.row 86 3 r)<|kk _,rfl⟩,trivial⟩) rfl rfl rfl
  .have T:a≠b:=by rw[AD]at V;intro e;simp[e]at V
   refine⟨k+1,⟨by omega,K,?_⟩,by(show l.length-(k+1)<l.length-k;omega),aq.keep⟩;rw[JD ha hb T,hc,List.take_add_one,ha];rfl
 .obtain rfl:k=l.length:=by simp at h3;omega
  have V:eB l=l:=by rw[<- sn,hc,List.take_length]
  rw[V];exact ck rfl rfl rfl
def RO(o:bB)(z:ax)(s:Bs)(c:Int)(f:Int)(d:List Datum)(cut:Bs)(l:List Int)(K:ZSm z)(hh:∀n∈l,cr o.w n=true)(hl:l.length<=1000)(X:d.length<=100000)(j:(wfR (dj o.w o.aJ cut l<|bN z s c f d) z.ag 4).2=true->(wfR (dj o.w o.aJ cut l<|bN z s c f d) z.ag 4).1.data≠[]) :
 FnP dF pvW 70 [.ptr 100034 0,.agg<|(aV z).map .d,.own 84] ((84,.fb 122 1 [[mR s c f d],[pn l cut]])::gBz o) (px (gBz o)<|cY o.since o.aT<|dj o.w o.aJ cut l<|bN z s c f d):=by
 refine bq [100004] slF LJ wF Tryz.func70 ?_;conv=>whnf
 have W:=bZ (pv' :=pvW)<|bX (cx' :=dF) rfl rfl<|lZ z (by have:=K.1;omega) K.2;refine⟨[4,6,84,100003,100034,90032,90040,90041],_,W,⟨rfl,rfl,rfl⟩,M ?_⟩
 refine aN<|M ?_
 have G:=bZ (pv' :=pvW)<|bX (cx' :=dF) rfl rfl<|fV z s c f d (by have:=K.1;omega) X;have N:=iY z s c f d;have I:(bN z s c f d).ag=z.ag:=rfl;generalize Y:bN z s c f d=D at G N I j ⊢;have H:=bZ (pv' :=pvW)<|bX (cx' :=dF) rfl rfl (uS o cut l D hh hl<|by have:=K.1;omega);have T:=rU o.w o.aJ cut l D;have J:(dj o.w o.aJ cut l D).ag=D.ag:=qk ..;generalize Z:dj o.w o.aJ cut l D=V at H T J j ⊢
 refine⟨Nat,λk=>⟨[(0,.ptr 100034 0),(4,.ptr 100004 0),(6,.ptr 6 0),(15,.own 84),(16,aj 2),(17,aj k)],gV (match k with|0=>z|1=>D|_=>V)++(6,.box [.d<|.str [],.nil 5])::(84,.fb 122 1 [[mR s c f d],[pn l cut]])::gBz o⟩,
  λk=>k<=2,λk=>2-k,⟨0,Nat.zero_le _,(aq.name 4 100004 rfl rfl).trans<|aq.keep⟩,λk hk=>?_⟩
 rcases k with _|_|_|k
 case succ.succ.succ=>omega
 .conv=>whnf
  refine⟨by decide,bA rfl,M ?_⟩
  refine⟨_,rfl,M ?_⟩
  refine⟨[6,84,100003,100034,90032,90040,90041],_,G,⟨by kernel_rfl,by kernel_rfl,by kernel_rfl⟩,M ?_⟩
  refine aN<|M ?_
  exact⟨1,by decide,by(show 2-1<2-0;omega),aq.keep⟩
 .conv=>whnf
  refine⟨by decide,bA rfl,M ?_⟩
  refine⟨_,rfl,M ?_⟩
  refine⟨[6,84],_,H,⟨by kernel_rfl,by kernel_rfl,by kernel_rfl⟩,M ?_⟩
  refine aN<|M ?_
  exact⟨2,by decide,by(show 2-2<2-1;omega),aq.keep⟩
 have U:=td o V (by have:=K.1;omega) (by rw[J,I];exact j);conv at U=>whnf
 conv=>whnf
 exact gW U<|aq.keep
def RQ(o:bB)(z:ax)(s:Bs)(c:Int)(f:Int)(d:List Datum)(H:Int)(J:Int)(D:List Datum)(I:Int)(G:List Datum)(cut:Bs)(l:List Int)(K:ZSm z)(hh:∀n∈l,cr o.w n=true)(hl:l.length<=1000)(hd:d.length<=100000)(kN:D.length<=100000)(hU:G.length<=100000)(j:(wfR (dj o.w o.aJ cut l<|bN (bN (bN z s c f d) s H J D) s I f G) z.ag 4).2=true->(wfR (dj o.w o.aJ cut l<|bN (bN (bN z s c f d) s H J D) s I f G) z.ag 4).1.data≠[]) :
 FnP dF pvW 70 [.ptr 100034 0,.agg<|(aV z).map .d,.own 87] ((87,.fb 122 1 [[mR s c f d],[mR s H J D],[mR s I f G],[pn l cut]])::gBz o) (px (gBz o)<|cY o.since o.aT<|dj o.w o.aJ cut l<|bN (bN (bN z s c f d) s H J D) s I f G):=by
 refine bq [100004] slF LJ wF Tryz.func70 ?_;conv=>whnf
 have hC:=bZ (pv' :=pvW)<|bX (cx' :=dF) rfl rfl<|lZ z (by have:=K.1;omega) K.2;refine⟨[4,6,87,100003,100034,90032,90040,90041],_,hC,⟨rfl,rfl,rfl⟩,M ?_⟩
 refine aN<|M ?_
 have V:=bZ (pv' :=pvW)<|bX (cx' :=dF) rfl rfl<|fV z s c f d (by have:=K.1;omega) hd;have kd:=iY z s c f d;have Z:(bN z s c f d).ag=z.ag:=rfl;generalize kb:bN z s c f d=N at V kd Z j ⊢;have W:=bZ (pv' :=pvW)<|bX (cx' :=dF) rfl rfl<|fV N s H J D (by have:=K.1;omega) kN;have hI:=iY N s H J D;have kv:(bN N s H J D).ag=N.ag:=rfl;generalize kD:bN N s H J D=T at W hI kv j ⊢;have X:=bZ (pv' :=pvW)<|bX (cx' :=dF) rfl rfl<|fV T s I f G (by have:=K.1;omega) hU;have kg:=iY T s I f G;have kx:(bN T s I f G).ag=T.ag:=rfl
 generalize kP:bN T s I f G=U at X kg kx j ⊢
 have Y:=bZ (pv' :=pvW)<|bX (cx' :=dF) rfl rfl (uS o cut l U hh hl<|by have:=K.1;omega);have kh:=rU o.w o.aJ cut l U;have ky:(dj o.w o.aJ cut l U).ag=U.ag:=qk ..;generalize kQ:dj o.w o.aJ cut l U=z4 at Y kh ky j ⊢;refine⟨Nat,λk=>⟨[(0,.ptr 100034 0),(4,.ptr 100004 0),(6,.ptr 6 0),(15,.own 87),(16,aj 4),(17,aj k)],gV (match k with|0=>z|1=>N|2=>T|3=>U|_=>z4)++(6,.box [.d<|.str [],.nil 5])::(87,.fb 122 1 [[mR s c f d],[mR s H J D],[mR s I f G],[pn l cut]])::gBz o⟩,
  λk=>k<=4,λk=>4-k,⟨0,Nat.zero_le _,(aq.name 4 100004 rfl rfl).trans<|aq.keep⟩,λk hk=>?_⟩
 rcases k with _|_|_|_|_|k
 case succ.succ.succ.succ.succ=>omega
 .conv=>whnf
  refine⟨by decide,bA rfl,M ?_⟩
  refine⟨_,rfl,M ?_⟩
  refine⟨[6,87,100003,100034,90032,90040,90041],_,V,⟨by kernel_rfl,by kernel_rfl,by kernel_rfl⟩,M ?_⟩
  refine aN<|M ?_
  exact⟨1,by decide,by(show 4-1<4-0;omega),aq.keep⟩
 .conv=>whnf
  refine⟨by decide,bA rfl,M ?_⟩
  refine⟨_,rfl,M ?_⟩
  refine⟨[6,87,100003,100034,90032,90040,90041],_,W,⟨by kernel_rfl,by kernel_rfl,by kernel_rfl⟩,M ?_⟩
  refine aN<|M ?_
  exact⟨2,by decide,by(show 4-2<4-1;omega),aq.keep⟩
 .conv=>whnf
  refine⟨by decide,bA rfl,M ?_⟩
  refine⟨_,rfl,M ?_⟩
  refine⟨[6,87,100003,100034,90032,90040,90041],_,X,⟨by kernel_rfl,by kernel_rfl,by kernel_rfl⟩,M ?_⟩
  refine aN<|M ?_
  exact⟨3,by decide,by(show 4-3<4-2;omega),aq.keep⟩
 .conv=>whnf
  refine⟨by decide,bA rfl,M ?_⟩
  refine⟨_,rfl,M ?_⟩
  refine⟨[6,87],_,Y,⟨by kernel_rfl,by kernel_rfl,by kernel_rfl⟩,M ?_⟩
  refine aN<|M ?_
  exact⟨4,by decide,by(show 4-4<4-3;omega),aq.keep⟩
 have hT:=td o z4 (by have:=K.1;omega) (by rw[ky,kx,kv,Z];exact j);conv at hT=>whnf
 conv=>whnf
 exact gW hT<|aq.keep
def RR(o:bB)(z:ax)(p:Signed->Bool)(x:bG)(s:Bs)(c:Int)(f:Int)(d:List Datum)(G:Int)(D:List Datum)(cut:Bs)(l:List Int)(I:ZSm z)(hh:∀n∈l,cr o.w n=true)(hl:l.length<=1000)(hd:d.length<=100000)(hU:D.length<=100000)(hw:∀s,NQ.Fn cx 135 [.agg<|an s,.ptr [.fn 85 [] [.ptr<|bw x]]] (.d<|.bool<|p s) [])(j:(wfR (dj o.w o.aJ cut l<|bN (bN (vS p z) s c f d) s G f D) z.ag 4).2=true->(wfR (dj o.w o.aJ cut l<|bN (bN (vS p z) s c f d) s G f D) z.ag 4).1.data≠[]) :
 FnP dF pvW 70 [.ptr 100034 0,.agg<|(aV z).map .d,.own 130] ((130,.fb 122 1 [[woA 85 x],[mR s c f d],[mR s G f D],[pn l cut]])::gBz o) (px (gBz o)<|cY o.since o.aT<|dj o.w o.aJ cut l<|bN (bN (vS p z) s c f d) s G f D):=by
 refine bq [100004] slF LJ wF Tryz.func70 ?_;conv=>whnf
 have hC:=bZ (pv' :=pvW)<|bX (cx' :=dF) rfl rfl<|lZ z (by have:=I.1;omega) I.2;refine⟨[4,6,130,100003,100034,90032,90040,90041],_,hC,⟨rfl,rfl,rfl⟩,M ?_⟩
 refine aN<|M ?_
 have H:=bZ (pv' :=pvW)<|bX (cx' :=dF) rfl rfl<|Ak z p 85 x (by have:=I.1;omega) hw;have kd:=XL p z;have W:(vS p z).ag=z.ag:=rfl
 change FnP _ _ _ _ _ (some (_,gV<|vS p z))at H
 generalize kb:vS p z=J at H kd W j ⊢
 have T:=bZ (pv' :=pvW)<|bX (cx' :=dF) rfl rfl<|fV J s c f d (by have:=I.1;omega) hd;have hI:=iY J s c f d;have X:(bN J s c f d).ag=J.ag:=rfl;generalize kD:bN J s c f d=K at T hI X j ⊢;have U:=bZ (pv' :=pvW)<|bX (cx' :=dF) rfl rfl<|fV K s G f D (by have:=I.1;omega) hU;have kg:=iY K s G f D;have Y:(bN K s G f D).ag=K.ag:=rfl;generalize kP:bN K s G f D=N at U kg Y j ⊢;have V:=bZ (pv' :=pvW)<|bX (cx' :=dF) rfl rfl (uS o cut l N hh hl<|by have:=I.1;omega);have kh:=rU o.w o.aJ cut l N;have Z:(dj o.w o.aJ cut l N).ag=N.ag:=qk ..
 generalize kQ:dj o.w o.aJ cut l N=z4 at V kh Z j ⊢
 refine⟨Nat,λk=>⟨[(0,.ptr 100034 0),(4,.ptr 100004 0),(6,.ptr 6 0),(15,.own 130),(16,aj 4),(17,aj k)],gV (match k with|0=>z|1=>J|2=>K|3=>N|_=>z4)++(6,.box [.d<|.str [],.nil 5])::(130,.fb 122 1 [[woA 85 x],[mR s c f d],[mR s G f D],[pn l cut]])::gBz o⟩,
  λk=>k<=4,λk=>4-k,⟨0,Nat.zero_le _,(aq.name 4 100004 rfl rfl).trans<|aq.keep⟩,λk hk=>?_⟩
 rcases k with _|_|_|_|_|k
 case succ.succ.succ.succ.succ=>omega
 .conv=>whnf
  refine⟨by decide,bA rfl,M ?_⟩
  refine⟨_,rfl,M ?_⟩
  refine⟨[6,130,100003,100034,90032,90040,90041],_,H,⟨by kernel_rfl,by kernel_rfl,by kernel_rfl⟩,M ?_⟩
  refine aN<|M ?_
  exact⟨1,by decide,by(show 4-1<4-0;omega),aq.keep⟩
 .conv=>whnf
  refine⟨by decide,bA rfl,M ?_⟩
  refine⟨_,rfl,M ?_⟩
  refine⟨[6,130,100003,100034,90032,90040,90041],_,T,⟨by kernel_rfl,by kernel_rfl,by kernel_rfl⟩,M ?_⟩
  refine aN<|M ?_
  exact⟨2,by decide,by(show 4-2<4-1;omega),aq.keep⟩
 .conv=>whnf
  refine⟨by decide,bA rfl,M ?_⟩
  refine⟨_,rfl,M ?_⟩
  refine⟨[6,130,100003,100034,90032,90040,90041],_,U,⟨by kernel_rfl,by kernel_rfl,by kernel_rfl⟩,M ?_⟩
  refine aN<|M ?_
  exact⟨3,by decide,by(show 4-3<4-2;omega),aq.keep⟩
 .conv=>whnf
  refine⟨by decide,bA rfl,M ?_⟩
  refine⟨_,rfl,M ?_⟩
  refine⟨[6,130],_,V,⟨by kernel_rfl,by kernel_rfl,by kernel_rfl⟩,M ?_⟩
  refine aN<|M ?_
  exact⟨4,by decide,by(show 4-4<4-3;omega),aq.keep⟩
 have hT:=td o z4 (by have:=I.1;omega) (by rw[Z,Y,X,W];exact j);conv at hT=>whnf
 conv=>whnf
 exact gW hT<|aq.keep
def fp(o:bB):bB:={o with got:=dA o.w o.got o.aF,bu:=o.bu++(if o.aF=[]then[]else[o.aF]),aF:=[]}
def Dv(o:bB):jJ o=fp o:=by
 unfold jJ fp;cases o with|mk w s t z l g p st =>
 dsimp only;by_cases h:p=[]
 .subst h;rw[if_pos rfl,if_pos rfl,List.append_nil];rfl
 .rw[if_neg h,if_neg h]
variable {z:ax}
def dP(h:aW z=true):ZSm z:=by
 have j:=bt h;exact⟨by have:=j.few;omega,λs D=>by have:=jY h s D;omega⟩
def eT{since aT:Int}{y:ax}(h:cY since aT y=some z):aW z=true:=by
 unfold cY at h;split at h
 .split at h
  .cases h
  .unfold nP at h;split at h
   .split at h
    .cases h
    .split at h
     .cases h
     .split at h
      .cases h
      .rename_i j;cases h;simp only[Bool.or_eq_true,not_or,Bool.not_eq_true,Bool.not_eq_false']at j;exact j.2
   .cases h
 .cases h
def nT(z:ax):Prop:= ∀s∈z.af,s.set.data≠[]
def kH{s:Bs}{k:Int}(h:nT z)(j:(wfR z s k).2=true):(wfR z s k).1.data≠[]:=by
 unfold wfR at j ⊢;unfold mX at j ⊢;cases D:z.af.find? (isF s k)with
 |none=>rw[D]at j;cases j
 |some x=>exact h x<|List.mem_of_find?_eq_some D
def jd{s:Bs}{k aJ:Int}{data:List Datum}(h:nT z)(G:data≠[]):nT<|bN z s k aJ data:=by
 intro x j;have D:(fc z s k aJ data).set.data≠[]:=G;unfold bN at j;dsimp only at j;split at j
 .rcases List.mem_or_eq_of_mem_set j with j|rfl
  .exact h x j
  .exact D
 .rcases List.mem_append.1 j with j|j
  .rcases List.mem_append.1 j with j|j
   .exact h x<|List.mem_of_mem_take j
   .rcases List.mem_singleton.1 j with rfl;exact D
  .exact h x<|List.mem_of_mem_drop j
def rT(w:aQ)(aJ:Int)(cut:Bs):∀(l:List Int) {z:ax},nT z->nT (dj w aJ cut l z)
 |[],z,h=>h
 |n::t,z,h=>by
  show nT<|dj w aJ cut t<|oc w aJ cut z n
  refine rT w aJ cut t ?_;unfold oc;split
  .exact jd h (by simp)
  .exact h
def WS(p:Signed->Bool)(h:nT z):nT<|vS p z:=λx j=>h x (List.mem_filter.1 j).1
def oa(h:aW z=true):nT z:=λs D=>by
 obtain⟨d,j⟩:=vi<|(bt h).set s D;intro e;rw[e]at j;cases j
def zr{w:aQ}{g:List<|Bs×List Int}:∀(l:List al),(∀p∈l,kY w g p=false)->dA w g l=g
 |[],_=>rfl
 |p::t,h=>by
  show dA w (jT w g p) t=g
  have:jT w g p=g:=by unfold jT;rw[if_neg<|by rw[h p (List.mem_cons_self ..)];decide]
  rw[this];exact zr t λq j=>h q<|aZ _ j
def wV{o:bB}:∀p∈cg z o.w.ah++cU z (bz o.got z.ag),kY o.w o.got p=false:=by
 intro p hp;rcases List.mem_append.1 hp with hp|hp
 .unfold cg at hp;obtain⟨q,H,rfl⟩:=List.mem_map.1 hp;obtain⟨j,D⟩:=List.mem_filter.1 H;have:o.w.ah.any (ff q.host z.ag)=true:=List.any_eq_true.2 ⟨q,j,by unfold ff;simp;simpa using D⟩;unfold kY;simp[this]
 .unfold cU at hp;obtain⟨n,G,rfl⟩:=List.mem_map.1 hp;unfold kY;have:(bz o.got z.ag).contains n=true:=iJ.2 G;dsimp only;rw[this];simp
def Jd{w:aQ}{g:List<|Bs×List Int}{n:Int}{a:Bs}:kY w g ⟨n,⟨a,[]⟩⟩=false:=rfl
def mJ(o:bB)(I:o.w.ah.length<=1000)(hp:o.aF.length<=100000)(J:o.bu.length<=1000)(D:∀a,(bz o.got a).length<=1000)(K:∀p∈o.aF,p.ai.af.length<=100000)(h:∀p∈o.aF,kY o.w o.got p=false) :
 FnP xo pvW 65 [.ptr 100034 0] (bK o) (some (.tuple [],bK {o with bu:=o.bu++(if o.aF=[]then[]else[o.aF]),aF:=[]})):=by
 have e:jJ o={o with bu:=o.bu++(if o.aF=[]then[]else[o.aF]),aF:=[]}:=by
  rw[Dv];unfold fp;rw[zr o.aF h]
 rw[<- e];have H:∀k,dA o.w o.got (o.aF.take k)=o.got:=λk=>zr _ λp hp=>h p<|List.mem_of_mem_take hp
 refine Dy o I hp J (λk p j=>?_) K λk p j G=>?_
 .rw[H];have:=D p.ai.ag;omega
 .rw[H,h p<|aw j]at G;cases G
def cR(o:bB):bB:={o with bu:=o.bu++(if o.aF=[]then[]else[o.aF]),aF:=[]}
def keyOf(x:bG):List Datum:=[⟨[],x.key.n,x.key.alg⟩]
def YI(z:ax)(x:bG):List Datum:=eB<|iS gX<|⟨[],x.key.n,x.key.alg⟩::(wfR z x.ai 7).1.data
def zB(o:bB)(x:bG)(z:ax):Option bB:=match cY o.since o.aT (bN z x.ai 7 o.aJ<|keyOf x)with
 |none=>none
 |some j=>some<|cR<|ba o j
def rV(o:bB)(x:bG)(z j:ax):Option bB:=if (wfR j x.ai 6).2=true then(match cY o.since o.aT (bN j x.ai 6 o.aJ<|keyOf x)with
 |none=>none
 |some D=>zB (cR<|ba o D) x z)else none
def DG(o:bB)(x:bG)(j:ax):Option bB:=if (wfR o.ai x.ai 7).2=true then(match cY o.since o.aT (bN o.ai x.ai 7 o.aJ<|YI o.ai x)with
 |none=>none
 |some z=>rV (cR<|ba o z) x z j)else none
def sS(o:bB)(x:bG):Option bB:=if (dQ o.w.ah x.ai).2=true then DG o x (dQ o.w.ah x.ai).1 else none
def ku:Option bB->Option (AV×List (Nat×Blk))
 |some o=>some (.tuple [],bK o)
 |none=>none
def lift{cx cx' :Cx}{pv:Int->Value}{f:FuncId}{args:List AV}{h:List<|Nat×Blk}{out:Option<|AV×List (Nat×Blk)}(D:FnP cx pv f args h out)(h1:cx'.P=cx.P)(j:cx'.gl=cx.gl):FnP cx' pv f args h out:=bX h1 j D
def rr{o:bB}{n:Nat}(h:o.bu.length<=n):(cR o).bu.length<=n+1:=by
 show(o.bu++_).length<=_
 rw[List.length_append];split<;>simp<;>omega
def Gd(z:ax)(l:List al):(cg z l).length<=l.length:=by
 unfold cg;rw[au];exact List.length_filter_le ..
def zj(o:bB)(z:ax)(I:o.w.ah.length<=1000)(hp:o.aF=[])(J:o.bu.length<=1000)(H:o.got=[])(K:ZSm z) :
 FnP xo pvW 65 [.ptr 100034 0] (bK<|ba o z) (some (.tuple [],bK<|cR<|ba o z)):=by
 have G:∀a,bz o.got a=[]:=λa=>by rw[H];rfl
 have D:(ba o z).aF=cg z o.w.ah++cU z (bz o.got z.ag):=by
  show o.aF++_++_=_
  rw[hp];rfl
 have N:=Gd z o.w.ah;refine mJ (ba o z) I ?_ J (λa=>by show(bz o.got a).length<=_;rw[G];simp) (λp j =>?_) λp j =>?_
 .rw[D,G];simp[cU];omega
 .rw[D]at j;have:p.ai=z:=by
   rcases List.mem_append.1 j with h|h
   .unfold cg at h;obtain⟨q,_,rfl⟩:=List.mem_map.1 h;rfl
   .unfold cU at h;obtain⟨q,_,rfl⟩:=List.mem_map.1 h;rfl
  rw[this];have:=K.1;omega
 .rw[D]at j;exact wV p j
attribute [local irreducible] NQ.FnP
noncomputable def jb:Cx:={cx with chg:=ja [(62,10),(61,9),(73,9),(34,11),(74,2),(76,1),(66,9),(70,9),(69,9),(65,9)],bld:=[52,77,95]}
def acx:bC jb:=bf
def aak:jb.P.follows .mixedOrders=true:=mixed
def abg:Nat->List Nat:=fun|1=>[33333]|2=>[55555]|3=>[33333]|4=>[33333,55555]|5=>[33333,55555]|8=>[33333,55555]|9=>[33333,55555]|10=>[33333]|11=>[33333,55555]|12=>[33333,55555]|13=>[33333]|14=>[33333,55555]|15=>[33333]|_=>[]
noncomputable abbrev abj:Code:=(Tryz.f36).body.getD .skip
noncomputable abbrev ack:List ResultVar:=(Tryz.f36).results.toList
def Uc(o:bB)(x:bG)(z j:ax)(hn:o.w.ah.length<=1000)(hp:o.aF=[])(hs:o.bu.length<=100)(hg:o.got=[])(hz:aW z=true)(Y:aW j=true) :
 vcp jb [] pvW 100 abg (λ_=>ku (rV (cR<|ba o z) x z j)=none) ((iH 9 abj).getD .skip) (qi jb [] ack<|ku<|rV (cR<|ba o z) x z j)
  ⟨[(0,.ptr 100034 0),(3,.ptr 3 0),(4,.ptr 4 0),(8,.ptr 8 0)],(3,.box<|(bw x).map .d)::(4,.box<|(aV j).map .d)::(8,.box<|(aV z).map .d)::bK o⟩:=by
 conv=>whnf
 refine⟨_,aq.refl _,M ?_⟩
 obtain⟨r,G⟩:∃r,r=rV (cR<|ba o z) x z j:=⟨_,rfl⟩
 rw[<- G];have hJ:∀a,bz o.got a=[]:=λa=>by rw[hg];rfl
 have J:=lift (cx' :=jb) (mn o z (dP hz) hn (by rw[hp];simp)<|by rw[hJ];simp) rfl rfl;refine⟨[3,4,8],_,J,⟨rfl,rfl,rfl⟩,M ?_⟩
 refine aN<|M ?_
 have I:=lift (cx' :=jb) (zj o z hn hp (by omega) hg<|dP hz) rfl rfl;refine⟨[3,4,8],_,I,⟨rfl,rfl,rfl⟩,M ?_⟩
 refine aN<|M ?_
 have kI:(cR<|ba o z).bu.length<=101:=rr (o:=ba o z) hs;have V:(cR<|ba o z).w=o.w:=rfl;have U:(cR<|ba o z).got=[]:=hg;have ki:(cR<|ba o z).aF=[]:=rfl;generalize cR (ba o z)=D at G kI V U ki ⊢;refine⟨_,aq.keep (sl:=[(0,.ptr 100034 0),(3,.ptr 3 0),(4,.ptr 4 0),(8,.ptr 8 0)]) (h:=(3,.box<|(bw x).map .d)::(4,.box<|(aV j).map .d)::(8,.box<|(aV z).map .d)::bK D),M ?_⟩
 clear J I;have K:=xO j x.ai 6 (by have:=(dP Y).1;omega);unfold rV at G;generalize wfR j x.ai 6=s6 at K G;obtain⟨s6,b6⟩:=s6;dsimp only at K G;cases b6 with
 |false =>
  rw[if_neg<|by decide]at K G;subst G;have K:=lift (cx' :=jb) K rfl rfl;exact⟨[3,4,8,100034,90032,90040,90041],_,K,⟨rfl,rfl,rfl⟩,rfl⟩
 |true =>
 rw[if_pos rfl]at K G;have K:=lift (cx' :=jb) K rfl rfl;refine⟨[3,4,8,100034,90032,90040,90041],_,K,⟨rfl,rfl,rfl⟩,M ?_⟩
 refine aN<|M ?_
 refine⟨_,aq.keep (sl:=[(0,.ptr 100034 0),(3,.ptr 3 0),(4,.ptr 4 0),(8,.ptr 8 0)]) (h:=(3,.box<|(bw x).map .d)::(4,.box<|(aV j).map .d)::(8,.box<|(aV z).map .d)::bK D),M ?_⟩
 clear K;have hK:=bZ (pv' :=pvW)<|lift (cx' :=jb) (rA x.key) rfl rfl;have hB:=bZ (pv' :=pvW)<|lift (cx' :=jb) (fu x.ai 6 D.aJ<|keyOf x) rfl rfl;have N:=lift (cx' :=jb) (vh D j x.ai 6 D.aJ (keyOf x) Y (by simp[keyOf]) λh=>kH (jd (oa Y)<|by simp[keyOf]) h) rfl rfl;cases W:cY D.since D.aT (bN j x.ai 6 D.aJ<|keyOf x)with
 |none =>
  rw[W]at N G;subst G
  (refine cn<|M ?_)
  refine⟨[3,4,8,100034,90032,90040,90041],_,hK,⟨rfl,rfl,rfl⟩,M ?_⟩
  refine aN ?_
  (conv=>arg 2;arg 1;reduce);(conv=>arg 2;arg 2;tactic=>(refine Eq.trans (b:=(3,.box<|(bw x).map .d)::(4,.box<|(aV j).map .d)::(8,.box<|(aV z).map .d)::bK D) ?_ rfl;kernel_rfl))
  conv=>whnf
  repeat (refine db<|M ?_)
  refine⟨[3,4,8,100034,90032,90040,90041],_,hB,⟨rfl,rfl,rfl⟩,M ?_⟩
  refine aN ?_
  (conv=>arg 2;arg 1;reduce);(conv=>arg 2;arg 2;tactic=>(refine Eq.trans (b:=(3,.box<|(bw x).map .d)::(4,.box<|(aV j).map .d)::(8,.box<|(aV z).map .d)::bK D) ?_ rfl;kernel_rfl))
  conv=>whnf
  repeat (refine db<|M ?_)
  exact⟨[3,4,8],_,N,⟨rfl,rfl,rfl⟩,rfl⟩
 |some T =>
 rw[W]at N G;have hQ:=eT W;have J:=lift (cx' :=jb) (mn D T (dP hQ) (by rw[V];exact hn) (by rw[ki];simp)<|by rw[U];simp[bz,bH]) rfl rfl
 (refine cn<|M ?_)
 refine⟨[3,4,8,100034,90032,90040,90041],_,hK,⟨rfl,rfl,rfl⟩,M ?_⟩
 refine aN ?_
 (conv=>arg 2;arg 1;reduce);(conv=>arg 2;arg 2;tactic=>(refine Eq.trans (b:=(3,.box<|(bw x).map .d)::(4,.box<|(aV j).map .d)::(8,.box<|(aV z).map .d)::bK D) ?_ rfl;kernel_rfl))
 conv=>whnf
 repeat (refine db<|M ?_)
 refine⟨[3,4,8,100034,90032,90040,90041],_,hB,⟨rfl,rfl,rfl⟩,M ?_⟩
 refine aN ?_
 (conv=>arg 2;arg 1;reduce);(conv=>arg 2;arg 2;tactic=>(refine Eq.trans (b:=(3,.box<|(bw x).map .d)::(4,.box<|(aV j).map .d)::(8,.box<|(aV z).map .d)::bK D) ?_ rfl;kernel_rfl))
 conv=>whnf
 repeat (refine db<|M ?_)
 refine⟨[3,4,8],_,N,⟨rfl,rfl,rfl⟩,M ?_⟩
 refine aN ?_
 (conv=>arg 2;arg 1;reduce);(conv=>arg 2;arg 2;tactic=>(refine Eq.trans (b:=(3,.box<|(bw x).map .d)::(4,.box<|(aV j).map .d)::(8,.box<|(aV z).map .d)::bK D) ?_ rfl;kernel_rfl))
 conv=>whnf
 repeat (refine db<|M ?_)
 refine⟨[3,4,8],_,J,⟨rfl,rfl,rfl⟩,M ?_⟩
 refine aN ?_
 (conv=>arg 2;arg 1;reduce);(conv=>arg 2;arg 2;tactic=>(refine Eq.trans (b:=(3,.box<|(bw x).map .d)::(4,.box<|(aV j).map .d)::(8,.box<|(aV z).map .d)::bK (ba D T)) ?_ rfl;kernel_rfl))
 conv=>whnf
 have I:=lift (cx' :=jb) (zj D T (by rw[V];exact hn) ki (by omega) U<|dP hQ) rfl rfl;refine⟨[3,4,8],_,I,⟨rfl,rfl,rfl⟩,M ?_⟩
 refine aN<|M ?_
 replace G:r=zB (cR<|ba D T) x z:=G;have xd:(cR<|ba D T).bu.length<=102:=rr (o:=ba D T) kI;have kp:(cR<|ba D T).w=o.w:=V;have Z:(cR<|ba D T).got=[]:=U;have kj:(cR<|ba D T).aF=[]:=rfl;generalize cR (ba D T)=H at G xd kp Z kj ⊢;refine⟨_,aq.keep (sl:=[(0,.ptr 100034 0),(3,.ptr 3 0),(4,.ptr 4 0),(8,.ptr 8 0)]) (h:=(3,.box<|(bw x).map .d)::(4,.box<|(aV j).map .d)::(8,.box<|(aV z).map .d)::bK H),M ?_⟩
 clear J I hB N W;have hB:=bZ (pv' :=pvW)<|lift (cx' :=jb) (fu x.ai 7 H.aJ<|keyOf x) rfl rfl;have N:=lift (cx' :=jb) (vh H z x.ai 7 H.aJ (keyOf x) hz (by simp[keyOf]) λh=>kH (jd (oa hz)<|by simp[keyOf]) h) rfl rfl;unfold zB at G;cases W:cY H.since H.aT (bN z x.ai 7 H.aJ<|keyOf x)with
 |none =>
  rw[W]at N G;subst G
  (refine cn<|M ?_)
  refine⟨[3,4,8,100034,90032,90040,90041],_,hK,⟨rfl,rfl,rfl⟩,M ?_⟩
  refine aN ?_
  (conv=>arg 2;arg 1;reduce);(conv=>arg 2;arg 2;tactic=>(refine Eq.trans (b:=(3,.box<|(bw x).map .d)::(4,.box<|(aV j).map .d)::(8,.box<|(aV z).map .d)::bK H) ?_ rfl;kernel_rfl))
  conv=>whnf
  repeat (refine db<|M ?_)
  refine⟨[3,4,8,100034,90032,90040,90041],_,hB,⟨rfl,rfl,rfl⟩,M ?_⟩
  refine aN ?_
  (conv=>arg 2;arg 1;reduce);(conv=>arg 2;arg 2;tactic=>(refine Eq.trans (b:=(3,.box<|(bw x).map .d)::(4,.box<|(aV j).map .d)::(8,.box<|(aV z).map .d)::bK H) ?_ rfl;kernel_rfl))
  conv=>whnf
  repeat (refine db<|M ?_)
  exact⟨[3,4,8],_,N,⟨rfl,rfl,rfl⟩,rfl⟩
 |some z3 =>
 rw[W]at N G;have X:=eT W;have J:=lift (cx' :=jb) (mn H z3 (dP X) (by rw[kp];exact hn) (by rw[kj];simp)<|by rw[Z];simp[bz,bH]) rfl rfl;have I:=lift (cx' :=jb) (zj H z3 (by rw[kp];exact hn) kj (by omega) Z<|dP X) rfl rfl
 (refine cn<|M ?_)
 refine⟨[3,4,8,100034,90032,90040,90041],_,hK,⟨rfl,rfl,rfl⟩,M ?_⟩
 refine aN ?_
 (conv=>arg 2;arg 1;reduce);(conv=>arg 2;arg 2;tactic=>(refine Eq.trans (b:=(3,.box<|(bw x).map .d)::(4,.box<|(aV j).map .d)::(8,.box<|(aV z).map .d)::bK H) ?_ rfl;kernel_rfl))
 conv=>whnf
 repeat (refine db<|M ?_)
 refine⟨[3,4,8,100034,90032,90040,90041],_,hB,⟨rfl,rfl,rfl⟩,M ?_⟩
 refine aN ?_
 (conv=>arg 2;arg 1;reduce);(conv=>arg 2;arg 2;tactic=>(refine Eq.trans (b:=(3,.box<|(bw x).map .d)::(4,.box<|(aV j).map .d)::(8,.box<|(aV z).map .d)::bK H) ?_ rfl;kernel_rfl))
 conv=>whnf
 repeat (refine db<|M ?_)
 refine⟨[3,4,8],_,N,⟨rfl,rfl,rfl⟩,M ?_⟩
 refine aN ?_
 (conv=>arg 2;arg 1;reduce);(conv=>arg 2;arg 2;tactic=>(refine Eq.trans (b:=(3,.box<|(bw x).map .d)::(4,.box<|(aV j).map .d)::(8,.box<|(aV z).map .d)::bK H) ?_ rfl;kernel_rfl))
 conv=>whnf
 repeat (refine db<|M ?_)
 refine⟨[3,4,8],_,J,⟨rfl,rfl,rfl⟩,M ?_⟩
 refine aN ?_
 (conv=>arg 2;arg 1;reduce);(conv=>arg 2;arg 2;tactic=>(refine Eq.trans (b:=(3,.box<|(bw x).map .d)::(4,.box<|(aV j).map .d)::(8,.box<|(aV z).map .d)::bK (ba H z3)) ?_ rfl;kernel_rfl))
 conv=>whnf
 refine⟨[3,4,8],_,I,⟨rfl,rfl,rfl⟩,M ?_⟩
 refine aN ?_
 (conv=>arg 2;arg 1;reduce);(conv=>arg 2;arg 2;tactic=>(refine Eq.trans (b:=(3,.box<|(bw x).map .d)::(4,.box<|(aV j).map .d)::(8,.box<|(aV z).map .d)::bK (cR<|ba H z3)) ?_ rfl;kernel_rfl))
 conv=>whnf
 replace G:r=some (cR<|ba H z3):=G;subst G;exact .inl ⟨[],aq.keep,rfl⟩
def Bo:∀l:List Datum,(eB l).length<=l.length
 |[]=>Nat.le_refl _
 |[a]=>Nat.le_refl _
 |a::b::t=>by
  have:=Bo<|b::t;show(if a=b then eB (b::t)else a::eB (b::t)).length<=_
  split<;>simp at this ⊢<;>omega
def Dl:∀l:List Datum,l≠[]->eB l≠[]
 |[],h=>absurd rfl h
 |[a],_=>by simp[eB]
 |a::b::t,_=>by
  have:=Dl (b::t) (by simp);show(if a=b then eB (b::t)else a::eB (b::t))≠[]
  split
  .exact this
  .simp
def Bh{j:List al}{a:Bs}(H:∀p∈j,aW p.ai=true)(h:(dQ j a).2=true):aW (dQ j a).1=true:=by
 unfold dQ at h ⊢;split at h
 .rename_i h1;rw[if_pos h1];split at h
  .rename_i D;rw[if_pos D];rcases lj j (lC a j).1 with ⟨p,hp,G,_⟩|⟨G,_⟩
   .rw[G];exact H p hp
   .rw[G]at D;cases D
  .cases h
 .cases h
def vH{s:Bs}{k:Int}(D:aW z=true)(h:(wfR z s k).2=true):(wfR z s k).1.data.length<=1000:=by
 unfold wfR mX at h ⊢;cases j:z.af.find? (isF s k)with
 |none=>rw[j]at h;cases h
 |some x =>
  have:=(jY D x<|List.mem_of_find?_eq_some j).1;show x.set.data.length<=1000
  omega
def zU(l:List Datum):(iS gX l).length=l.length:=(tm<|Bm.ok _).length_eq
def Xj(o:bB)(x:bG)(hv:∀p∈o.w.ah,aW p.ai=true)(hn:o.w.ah.length<=1000)(hz:aW o.ai=true)(hL:o.aF=[])(kl:o.bu.length<=100)(ka:o.got=[]):FnP jb pvW 36 [.ptr 100034 0,.agg<|(bw x).map .d] (bK o)<|ku<|sS o x:=by
 refine bq [] abg acx aak Tryz.func36 ?_;conv=>whnf
 obtain⟨r,j⟩:∃r,r=sS o x:=⟨_,rfl⟩
 rw[<- j];unfold sS at j;have V:=bZ (pv' :=pvW)<|lift (cx' :=jb) (uE o.w x.ai hv<|by omega) rfl rfl;have J:=Bh (a:=x.ai) hv;generalize dQ o.w.ah x.ai=H at V j J;obtain⟨H,b⟩:=H;dsimp only at V j J;apply wm (α:=Unit) (P:=λ_=>True) (canon:=λ_=>⟨[(0,.ptr 100034 0),(3,.ptr 3 0),(4,.ptr 4 0),(5,.d<|.bool b)],(3,.box<|(bw x).map .d)::(4,.box<|(aV H).map .d)::bK o⟩)
 .intro Y
  (refine cn<|M ?_)
  repeat' (first
   |(refine db<|M ?_)
   |(refine⟨[3,100034,90032,90040,90041],_,V,⟨rfl,rfl,rfl⟩,?_⟩;(conv=>whnf);refine aN ?_;(conv=>whnf))
   |(refine⟨[3,4,100034,90032,90040,90041],_,V,⟨rfl,rfl,rfl⟩,?_⟩;(conv=>whnf);refine aN ?_;(conv=>whnf))
   |(refine And.intro ?_ ?_<;>(conv=>whnf)))
  all_goals exact pD (aq.keep)<|Y () trivial
 rintro _ _;unfold App;conv=>whnf
 cases b with
 |false =>
  rw[if_neg<|by decide]at j;subst j;conv=>whnf
  have hF:=lift (cx' :=jb) (ma 4<|by decide) rfl rfl;exact⟨[3,4,100034,90032,90040,90041],_,hF,⟨rfl,rfl,rfl⟩,rfl⟩
 |true =>
 rw[if_pos rfl]at j;conv=>whnf
 refine⟨_,aq.keep (sl:=[(0,.ptr 100034 0),(3,.ptr 3 0),(4,.ptr 4 0)]) (h:=(3,.box<|(bw x).map .d)::(4,.box<|(aV H).map .d)::bK o),M ?_⟩
 have hK:=bZ (pv' :=pvW)<|lift (cx' :=jb) (BA x.key) rfl rfl;refine⟨[3,4,100034,90032,90040,90041],_,hK,⟨rfl,rfl,rfl⟩,M ?_⟩
 refine aN<|M ?_
 refine⟨_,aq.keep (sl:=[(0,.ptr 100034 0),(3,.ptr 3 0),(4,.ptr 4 0),(6,.own 90050)]) (h:=(3,.box<|(bw x).map .d)::(4,.box<|(aV H).map .d)::(90050,.row 86 3 [aS ⟨[],x.key.n,x.key.alg⟩])::bK o),M ?_⟩
 have N:=vH (s:=x.ai) (k:=7) hz;have G:=xO o.ai x.ai 7 (by have:=(dP hz).1;omega);unfold DG YI at j;generalize wfR o.ai x.ai 7=T at G j N;obtain⟨T,b7⟩:=T;dsimp only at G j N;cases b7 with
 |false =>
  rw[if_neg<|by decide]at G j;subst j;have G:=lift (cx' :=jb) G rfl rfl
  (refine cn<|M ?_)
  exact⟨[3,4,90050,100034,90032,90040,90041],_,G,⟨rfl,rfl,rfl⟩,rfl⟩
 |true =>
 rw[if_pos rfl]at G j;have G:=lift (cx' :=jb) G rfl rfl;have xj:=N rfl
 (refine cn<|M ?_)
 refine⟨[3,4,90050,100034,90032,90040,90041],_,G,⟨rfl,rfl,rfl⟩,M ?_⟩
 refine aN<|M ?_
 repeat (refine db<|M ?_)
 refine⟨by simp;omega,by simp;omega,M ?_⟩
 repeat (refine db<|M ?_)
 refine⟨_,Hp (⟨[],x.key.n,x.key.alg⟩::T.data) (by simp;omega) _,M ?_⟩
 have K:(iS gX<|⟨[],x.key.n,x.key.alg⟩::T.data).length<=100000:=by rw[zU];simp;omega
 have X:iS gX (⟨[],x.key.n,x.key.alg⟩::T.data)≠[]:=λe=>by have:=zU<|⟨[],x.key.n,x.key.alg⟩::T.data;rw[e]at this;simp at this
 generalize iS gX (⟨[],x.key.n,x.key.alg⟩::T.data)=Z at K X j ⊢
 refine⟨_,JG Z K _,M ?_⟩
 have W:(eB Z).length<=100000:=Nat.le_trans (Bo Z) K;have I:=Dl Z X;generalize eB Z=D at W I j ⊢;refine⟨_,aq.trans (aq.vK [90050])<|aq.keep (sl:=[(0,.ptr 100034 0),(3,.ptr 3 0),(4,.ptr 4 0),(7,.d<|.slice 3<|D.map aS)]) (h:=(3,.box<|(bw x).map .d)::(4,.box<|(aV H).map .d)::bK o),M ?_⟩
 clear V hK G;have hB:=bZ (pv' :=pvW)<|lift (cx' :=jb) (fu x.ai 7 o.aJ D) rfl rfl;have U:=lift (cx' :=jb) (vh o o.ai x.ai 7 o.aJ D hz W λh=>kH (jd (oa hz) I) h) rfl rfl;cases hq:cY o.since o.aT (bN o.ai x.ai 7 o.aJ D)with
 |none =>
  rw[hq]at U j;subst j
  (refine cn<|M ?_)
  repeat' (first
   |(refine db<|M ?_)
   |(refine⟨[3,4,100034,90032,90040,90041],_,hB,⟨rfl,rfl,rfl⟩,?_⟩;(conv=>whnf);refine aN ?_;(conv=>arg 2;arg 1;reduce);(conv=>whnf))
   |(refine⟨[3,4,8,100034,90032,90040,90041],_,hB,⟨rfl,rfl,rfl⟩,?_⟩;(conv=>whnf);refine aN ?_;(conv=>arg 2;arg 1;reduce);(conv=>whnf))
   |exact⟨[3,4],_,U,⟨rfl,rfl,rfl⟩,rfl⟩
   |exact⟨[3,4,8],_,U,⟨rfl,rfl,rfl⟩,rfl⟩
   |(refine And.intro ?_ ?_<;>(conv=>whnf)))
 |some z =>
 rw[hq]at U j;have hQ:=eT hq;have hT:=Uc o x z H hn hL kl ka hQ<|J rfl;conv at hT=>whnf
 replace j:r=rV (cR<|ba o z) x z H:=j;rw[<- j]at hT
 . (refine cn<|M ?_)
   repeat' (first
    |(refine db<|M ?_)
    |(refine⟨[3,4,100034,90032,90040,90041],_,hB,⟨rfl,rfl,rfl⟩,?_⟩;(conv=>whnf);refine aN ?_;(conv=>arg 2;arg 1;reduce);(conv=>whnf))
    |(refine⟨[3,4,8,100034,90032,90040,90041],_,hB,⟨rfl,rfl,rfl⟩,?_⟩;(conv=>whnf);refine aN ?_;(conv=>arg 2;arg 1;reduce);(conv=>whnf))
    |(refine⟨[3,4],_,U,⟨rfl,rfl,rfl⟩,?_⟩;(conv=>whnf);refine aN ?_;(conv=>arg 2;arg 1;reduce);(conv=>whnf))
    |(refine⟨[3,4,8],_,U,⟨rfl,rfl,rfl⟩,?_⟩;(conv=>whnf);refine aN ?_;(conv=>arg 2;arg 1;reduce);(conv=>whnf))
    |(refine And.intro ?_ ?_<;>(conv=>whnf)))
   all_goals exact gW hT<|aq.keep
def gh(x:bG)(l:List al):List al:=(l.filter λp=>(p.ai.ag==x.ai)&& !x.ar.contains p.host).map λp=>⟨p.host,⟨x.ai,[]⟩⟩
def CN(x:bG)(l:List al):(gh x l).length<=l.length:=by
 unfold gh;rw[au];exact List.length_filter_le ..
def DT(o:bB)(x:bG):bB:=cR {cR o with aF:=gh x o.w.ah}
noncomputable def kq:Cx:={cx with chg:=ja [(62,10),(63,10),(67,10),(61,9),(64,9),(72,9),(68,9),(66,9),(70,9),(69,9),(65,9)]}
def acy:bC kq:=bf
def aal:kq.P.follows .mixedOrders=true:=mixed
def WU:Nat->List Nat:=fun|1=>[33333]|2=>[55555]|3=>[33333]|7=>[33333]|8=>[33333]|10=>[33333]|11=>[33333,55555]|12=>[33333,55555]|13=>[33333,55555]|14=>[33333,55555]|15=>[33333,55555]|16=>[55555]|20=>[33333]|22=>[33333,55555]|_=>[]
noncomputable abbrev Ut:Code:=(Tryz.f35).body.getD .skip
noncomputable abbrev abu:List ResultVar:=(Tryz.f35).results.toList
def Rm(o:bB)(x:bG)(W:o.w.ah.length<=1000)(hl:x.ar.length<=1000)(hp:o.aF.length<=100000)(D:o.bu.length<=100)(N:∀a,(bz o.got a).length<=1000)(Y:∀p∈o.aF,p.ai.af.length<=100000)(X:∀p∈o.aF,kY o.w o.got p=false) :
 vcp kq [100003] pvW 122 WU (λ_=>ku (some<|DT o x)=none) ((iH 15 Ut).getD .skip) (qi kq [100003] abu<|ku<|some<|DT o x)
  ⟨[(0,.ptr 100034 0),(3,.ptr 3 0)],(3,.box<|(bw x).map .d)::bK o⟩:=by
 conv=>whnf
 refine⟨_,aq.refl _,M ?_⟩
 have I:=lift (cx' :=kq) (mJ o W hp (by omega) N Y X) rfl rfl;refine⟨[3],_,I,⟨rfl,rfl,rfl⟩,M ?_⟩
 refine aN<|M ?_
 have Z:(cR o).bu.length<=101:=rr D;have hE:DT o x=cR {cR o with aF:=gh x o.w.ah}:=rfl;have J:(cR o).w=o.w:=rfl;have T:(cR o).aF=[]:=rfl;have H:∀a,(bz (cR o).got a).length<=1000:=N;refine⟨_,aq.keep (sl:=[(0,.ptr 100034 0),(3,.ptr 3 0)]) (h:=(3,.box<|(bw x).map .d)::bK (cR o)),?_⟩;rw[hE];generalize cR o=j at Z J T H ⊢;rw[<- J];rw[<- J]at W;conv=>whnf
 refine⟨Nat×List al,λq=>⟨[(0,.ptr 100034 0),(3,.ptr 3 0),(93,.d<|.slice 3<|j.w.ah.map aP),(94,aj ((j.w.ah.map aP).length:Int)),(95,aj q.1)],(3,.box<|(bw x).map .d)::bK {j with aF:=q.2}⟩,
  λq=>q.1<=j.w.ah.length/\q.2++gh x (j.w.ah.drop q.1)=gh x j.w.ah/\q.2.length<=q.1,λq=>j.w.ah.length-q.1,⟨(0,[]),⟨Nat.zero_le _,rfl,Nat.le_refl _⟩,aq.keep (by repeat' (first|exact trivial|refine⟨⟨rfl,rfl⟩,?_⟩)) ⟨⟨rfl,rfl⟩,⟨rfl,rfl⟩,⟨rfl,rfl⟩,⟨congrArg (λr:List al=>some<|Blk.row 72 3<|r.map aP) T,rfl⟩,⟨rfl,rfl⟩,trivial⟩⟩,?_⟩
 rintro⟨k,K⟩ ⟨hk,D,V⟩;dsimp only at hk D V;conv=>whnf
 refine aD ?_ ?_<;>intro h1
 .have G:k<j.w.ah.length:=by simp at h1;omega
  obtain⟨p,U⟩:∃p,j.w.ah[k]? =some p:=⟨_,ao G⟩
  have hd:gh x (j.w.ah.drop k)=(if ((p.ai.ag==x.ai)&& !x.ar.contains p.host)=true then[⟨p.host,⟨x.ai,[]⟩⟩]else[])++gh x (j.w.ah.drop<|k+1):=by
   rw[drop_cons U];unfold gh;rw[List.filter_cons];split<;>rfl
  rw[hd, <- List.append_assoc]at D;have again:((p.ai.ag==x.ai)&& !x.ar.contains p.host)=false->K++gh x (j.w.ah.drop<|k+1)=gh x j.w.ah:=λh=>by rw[if_neg<|by rw[h];decide,List.append_nil]at D;exact D
  refine⟨aB k,aP p,aL U,M ?_⟩
  refine aD ?_ ?_<;>intro h2
  . (refine⟨_,_,lh x.ar p.host<|by omega,M ?_⟩)
    cases hc:x.ar.contains p.host with
    |true =>
     conv=>whnf
     exact⟨(k+1,K),⟨G,again<|by rw[hc];simp,by dsimp only;omega⟩,by(show j.w.ah.length-(k+1)<j.w.ah.length-k;omega),aq.keep⟩
    |false =>
     conv=>whnf
     rw[if_pos<|by rw[hc];simpa using h2]at D;have hP:=lift (cx' :=kq) (Lx {j with aF:=K} p.host x.ai (by dsimp only;omega)) rfl rfl;refine⟨[3,11],_,hP,⟨rfl,rfl,rfl⟩,M ?_⟩
     refine aN<|M ?_
     exact⟨(k+1,K++[⟨p.host,⟨x.ai,[]⟩⟩]),⟨G,D,by simp;omega⟩,by(show j.w.ah.length-(k+1)<j.w.ah.length-k;omega),aq.keep⟩
  .exact⟨(k+1,K),⟨G,again<|by rw[show(p.ai.ag==x.ai)=false from h2];rfl,by dsimp only;omega⟩,by(show j.w.ah.length-(k+1)<j.w.ah.length-k;omega),aq.keep⟩
 .obtain rfl:k=j.w.ah.length:=by simp at h1;omega
  rw[List.drop_length]at D;have D:K=gh x j.w.ah:=by rw[<- D];exact(List.append_nil _).symm
  have km:=CN x j.w.ah;subst D;have I:=lift (cx' :=kq) (mJ {j with aF:=gh x j.w.ah} W (by dsimp only;omega) (by dsimp only;omega) H (λp hp=>by
   unfold gh at hp;obtain⟨q,_,rfl⟩:=List.mem_map.1 hp;simp) (λp hp=>by
   dsimp only at hp;unfold gh at hp;obtain⟨q,_,rfl⟩:=List.mem_map.1 hp;exact Jd)) rfl rfl
  refine⟨_,aq.keep (sl:=[(0,.ptr 100034 0)]) (h:=bK {j with aF:=gh x j.w.ah}),M ?_⟩
  refine⟨[],_,I,⟨rfl,rfl,rfl⟩,M ?_⟩
  refine aN<|M ?_
  exact .inl ⟨[],aq.keep,rfl⟩
def AL(o:bB)(x:bG)(z:ax):ax:=dj o.w o.aJ x.ai x.ar<|bN z x.ai 2 o.aJ<|cZ o.w x.ar
def ug(o:bB)(x:bG)(j:ax):Option bB:=match cY o.since o.aT (AL o x o.ai)with
 |none=>none
 |some D=>(match cY o.since o.aT (AL o x j)with
  |none=>none
  |some G=>some<|DT (ba (ba o D) G) x)
def vU(w:aQ)(l:List Int):(cZ w l).length=l.length:=by
 unfold cZ;rw[zU,au]
def vV{o:bB}{p:al}(h:p∈(ba o z).aF):p∈o.aF\/(p.ai=z/\kY o.w o.got p=false):=by
 have h:p∈o.aF++cg z o.w.ah++cU z (bz o.got z.ag):=h;rw[List.append_assoc]at h;rcases List.mem_append.1 h with h|h
 .exact .inl h
 .refine .inr ⟨?_,wV p h⟩;rcases List.mem_append.1 h with h|h
  .unfold cg at h;obtain⟨q,_,rfl⟩:=List.mem_map.1 h;rfl
  .unfold cU at h;obtain⟨q,_,rfl⟩:=List.mem_map.1 h;rfl
def yi(o:bB)(z:ax):(ba o z).aF.length<=o.aF.length+o.w.ah.length+(bz o.got z.ag).length:=by
 show(o.aF++cg z o.w.ah++cU z (bz o.got z.ag)).length<=_
 have:=Gd z o.w.ah;simp[cU];omega
def Rl(o:bB)(x:bG)(j:ax)(hn:o.w.ah.length<=1000)(hl:x.ar.length<=1000)(kV:x.ar≠[])(hh:∀n∈x.ar,cr o.w n=true)(hp:o.aF=[])(hs:o.bu.length<=100)(J:∀a,(bz o.got a).length<=1000)(hz:aW o.ai=true)(X:aW j=true) :
 vcp kq [100003] pvW 122 WU (λ_=>ku (ug o x j)=none) ((iH 11 Ut).getD .skip) (qi kq [100003] abu<|ku<|ug o x j)
  ⟨[(0,.ptr 100034 0),(3,.ptr 3 0),(4,.ptr 4 0)],(3,.box<|(bw x).map .d)::(4,.box<|(aV j).map .d)::bK o⟩:=by
 conv=>whnf
 refine⟨_,aq.refl _,M ?_⟩
 have U:=vU o.w x.ar;have V:cZ o.w x.ar≠[]:=λe=>by rw[e]at U;exact kV<|List.eq_nil_of_length_eq_zero U.symm
 have hV:=bZ (pv' :=pvW)<|lift (cx' :=kq) (vT o.w x.ar hl hh) rfl rfl;have hB:=bZ (pv' :=pvW)<|lift (cx' :=kq) (fu x.ai 2 o.aJ<|cZ o.w x.ar) rfl rfl;have G:=lift (cx' :=kq) (RN o o.ai x.ai 2 o.aJ (cZ o.w x.ar) x.ai x.ar (dP hz) hh hl (by omega) λh=>kH (rT _ _ _ _<|jd (oa hz) V) h) rfl rfl;obtain⟨r,H⟩:∃r,r=ug o x j:=⟨_,rfl⟩
 rw[<- H];unfold ug AL at H;generalize cZ o.w x.ar=W at U V hV hB G H
 (refine cn<|M ?_)
 refine⟨[3,4,100034,90032,90040,90041],_,hV,⟨rfl,rfl,rfl⟩,M ?_⟩
 refine aN ?_
 (conv=>arg 2;arg 1;reduce);(conv=>arg 2;arg 2;tactic=>(refine Eq.trans (b:=(3,.box<|(bw x).map .d)::(4,.box<|(aV j).map .d)::bK o) ?_ rfl;kernel_rfl))
 conv=>whnf
 repeat (refine db<|M ?_)
 refine⟨[3,4,100034,90032,90040,90041],_,hB,⟨rfl,rfl,rfl⟩,M ?_⟩
 refine aN ?_
 (conv=>arg 2;arg 1;reduce);(conv=>arg 2;arg 2;tactic=>(refine Eq.trans (b:=(3,.box<|(bw x).map .d)::(4,.box<|(aV j).map .d)::bK o) ?_ rfl;kernel_rfl))
 conv=>whnf
 repeat (refine db<|M ?_)
 refine⟨_,aq.keep (sl:=[(0,.ptr 100034 0),(3,.ptr 3 0),(4,.ptr 4 0),(8,mR x.ai 2 o.aJ W)]) (h:=(3,.box<|(bw x).map .d)::(4,.box<|(aV j).map .d)::bK o),M ?_⟩
 have hG:=bZ (pv' :=pvW)<|lift (cx' :=kq) (Kp o x.ai x.ar) rfl rfl;refine⟨[3,4],_,hG,⟨rfl,rfl,rfl⟩,M ?_⟩
 refine aN<|M ?_
 refine⟨_,aq.trans (aq.name 90003 100003 rfl rfl)<|aq.keep (sl:=[(0,.ptr 100034 0),(3,.ptr 3 0),(4,.ptr 4 0),(8,mR x.ai 2 o.aJ W),(9,pn x.ar x.ai)]) (h:=(3,.box<|(bw x).map .d)::(4,.box<|(aV j).map .d)::gBz o),M ?_⟩
 clear hV hB hG;cases T:cY o.since o.aT (dj o.w o.aJ x.ai x.ar<|bN o.ai x.ai 2 o.aJ W)with
 |none =>
  rw[T]at G H;subst H;exact⟨[3,4],_,G,⟨by kernel_rfl,by kernel_rfl,by kernel_rfl⟩,rfl⟩
 |some D =>
 rw[T]at G H;dsimp only at H;have hN:=dP<|eT T;refine⟨[3,4],_,G,⟨by kernel_rfl,by kernel_rfl,by kernel_rfl⟩,M ?_⟩
 refine aN ?_
 (conv=>arg 2;arg 1;reduce);(conv=>arg 2;arg 2;tactic=>(refine Eq.trans (b:=(3,.box<|(bw x).map .d)::(4,.box<|(aV j).map .d)::gBz o) ?_ rfl;kernel_rfl))
 conv=>whnf
 have N:=lift (cx' :=kq) (mn o D hN hn (by rw[hp];simp)<|J _) rfl rfl;refine⟨[3,4,100003],_,N,⟨by kernel_rfl,by kernel_rfl,by kernel_rfl⟩,M ?_⟩
 refine aN ?_
 (conv=>arg 2;arg 1;reduce);(conv=>arg 2;arg 2;tactic=>(refine Eq.trans (b:=(3,.box<|(bw x).map .d)::(4,.box<|(aV j).map .d)::gBz (ba o D)) ?_ rfl;kernel_rfl))
 conv=>whnf
 refine⟨_,aq.keep (sl:=[(0,.ptr 100034 0),(3,.ptr 3 0),(4,.ptr 4 0),(8,mR x.ai 2 o.aJ W),(9,pn x.ar x.ai)]) (h:=(3,.box<|(bw x).map .d)::(4,.box<|(aV j).map .d)::gBz (ba o D)),M ?_⟩
 clear G N T;have I:=lift (cx' :=kq) (RO (ba o D) j x.ai 2 o.aJ W x.ai x.ar (dP X) hh hl (by omega) λh=>kH (rT _ _ _ _<|jd (oa X) V) h) rfl rfl
 change FnP _ _ _ _ _ (px (gBz<|ba o D)<|cY o.since o.aT<|dj o.w o.aJ x.ai x.ar<|bN j x.ai 2 o.aJ W)at I
 cases T:cY o.since o.aT (dj o.w o.aJ x.ai x.ar<|bN j x.ai 2 o.aJ W)with
 |none =>
  rw[T]at I H;subst H;exact⟨[3,4],_,I,⟨by kernel_rfl,by kernel_rfl,by kernel_rfl⟩,rfl⟩
 |some K =>
 rw[T]at I H;dsimp only at H;have kL:=dP<|eT T;refine⟨[3,4],_,I,⟨by kernel_rfl,by kernel_rfl,by kernel_rfl⟩,M ?_⟩
 refine aN ?_
 (conv=>arg 2;arg 1;reduce);(conv=>arg 2;arg 2;tactic=>(refine Eq.trans (b:=(3,.box<|(bw x).map .d)::(4,.box<|(aV j).map .d)::gBz (ba o D)) ?_ rfl;kernel_rfl))
 conv=>whnf
 have Y:=yi o D;have kb:=J D.ag;have kD:=J K.ag;rw[hp]at Y;simp only[List.length_nil]at Y;have N:=lift (cx' :=kq) (mn (ba o D) K kL hn (by omega)<|J _) rfl rfl;refine⟨[3,4,100003],_,N,⟨by kernel_rfl,by kernel_rfl,by kernel_rfl⟩,M ?_⟩
 refine aN ?_
 (conv=>arg 2;arg 1;reduce);(conv=>arg 2;arg 2;tactic=>(refine Eq.trans (b:=(3,.box<|(bw x).map .d)::(4,.box<|(aV j).map .d)::gBz (ba (ba o D) K)) ?_ rfl;kernel_rfl))
 conv=>whnf
 have hI:(ba (ba o D) K).aF.length<=100000:=by
  have:=yi (ba o D) K;have h1:(ba o D).w.ah.length=o.w.ah.length:=rfl;have h2:(bz (ba o D).got K.ag).length=(bz o.got K.ag).length:=rfl;omega
 have Z:∀p∈(ba (ba o D) K).aF,(p.ai=K\/p.ai=D)/\kY o.w o.got p=false:=λp h=>by
  rcases vV h with h|⟨h1,h2⟩
  .rcases vV h with h|⟨h1,h2⟩
   .rw[hp]at h;cases h
   .exact⟨.inr h1,h2⟩
  .exact⟨.inl h1,h2⟩
 have hT:=Rm (ba (ba o D) K) x hn hl hI hs J (λp h=>by
  rcases (Z p h).1 with e|e
  .rw[e];have:=kL.1;omega
  .rw[e];have:=hN.1;omega) λp h=>(Z p h).2
 conv at hT=>whnf
 rw[<- H]at hT;exact gW hT<|aq.keep
def uv{α:Type}(a b:List UInt8)(v:α):∀g:List (List UInt8×α),bH a (cy b v g)=if a=b then some v else bH a g
 |[]=>by
  show(if a=b then some v else none)=_
  rfl
 |(k,x)::t=>by
  have:=uv a b v t;show bH a (if b=k then(k,v)::t else(k,x)::cy b v t)=if a=b then some v else(if a=k then some x else bH a t)
  by_cases h:b=k
  .subst h;rw[if_pos rfl];show(if a=b then some v else bH a t)=_
   by_cases j:a=b
   .rw[if_pos j,if_pos j]
   .rw[if_neg j,if_neg j,if_neg j]
  .rw[if_neg h];show(if a=k then some x else bH a<|cy b v t)=_
   rw[this];by_cases j:a=k
   .subst j;rw[if_pos rfl,if_neg λe=>h e.symm,if_pos rfl]
   .rw[if_neg j,if_neg j]
def lT(w:aQ):∀(l:List al) (g:List<|Bs×List Int) (a:Bs),(bz (dA w g l) a).length<=(bz g a).length+l.length
 |[],g,a=>Nat.le_refl _
 |p::t,g,a=>by
  have h1:=lT w t (jT w g p) a;have j:(bz (jT w g p) a).length<=(bz g a).length+1:=by
   unfold jT;split
   .unfold bz;rw[uv];split
    .rename_i e;subst e;show((bH p.ai.ag g).getD []++[p.host]).length<=_
     simp
    .omega
   .omega
  show(bz (dA w (jT w g p) t) a).length<=_
  simp only[List.length_cons];omega
def cW(o:bB)(x:bG)(l:List Int):List al:=(l.filter λn=> !o.w.ah.any (ff n x.ai)).map λn=>⟨n,o.ai⟩
def Fz(o:bB)(x:bG)(l:List Int):(cW o x l).length<=l.length:=by
 unfold cW;rw[au];exact List.length_filter_le ..
def sU(o:bB)(x:bG):Option bB:=if (dQ o.w.ah x.ai).2=true then ug (fp {o with aF:=cW o x x.ar}) x (dQ o.w.ah x.ai).1 else none
def Xt(o:bB)(x:bG)(hv:∀p∈o.w.ah,aW p.ai=true)(hn:o.w.ah.length<=1000)(hz:aW o.ai=true)(hL:o.aF=[])(kl:o.bu.length<=50)(N:o.got=[])(hl:x.ar.length<=1000)(Y:x.ar≠[])(hh:∀n∈x.ar,cr o.w n=true):FnP kq pvW 35 [.ptr 100034 0,.agg<|(bw x).map .d] (bK o)<|ku<|sU o x:=by
 refine bq [100003] WU acy aal Tryz.func35 ?_;conv=>whnf
 obtain⟨r,D⟩:∃r,r=sU o x:=⟨_,rfl⟩
 rw[<- D];unfold sU at D;have J:=bZ (pv' :=pvW)<|lift (cx' :=kq) (uE o.w x.ai hv<|by omega) rfl rfl;have G:=Bh (a:=x.ai) hv;generalize dQ o.w.ah x.ai=I at J D G;obtain⟨I,b⟩:=I;dsimp only at J D G;apply wm (α:=Unit) (P:=λ_=>True) (canon:=λ_=>⟨[(0,.ptr 100034 0),(3,.ptr 3 0),(4,.ptr 4 0),(5,.d<|.bool b)],(3,.box<|(bw x).map .d)::(4,.box<|(aV I).map .d)::bK o⟩)
 .intro V
  (refine cn<|M ?_)
  repeat' (first
   |(refine db<|M ?_)
   |(refine⟨[3,100034,90032,90040,90041],_,J,⟨rfl,rfl,rfl⟩,?_⟩;(conv=>whnf);refine aN ?_;(conv=>whnf))
   |(refine⟨[3,4,100034,90032,90040,90041],_,J,⟨rfl,rfl,rfl⟩,?_⟩;(conv=>whnf);refine aN ?_;(conv=>whnf))
   |(refine And.intro ?_ ?_<;>(conv=>whnf)))
  all_goals exact pD (aq.keep)<|V () trivial
 rintro _ _;unfold App;conv=>whnf
 cases b with
 |false =>
  rw[if_neg<|by decide]at D;subst D;conv=>whnf
  have hF:=lift (cx' :=kq) (ma 4<|by decide) rfl rfl;exact⟨[3,4,100034,90032,90040,90041],_,hF,⟨rfl,rfl,rfl⟩,rfl⟩
 |true =>
 rw[if_pos rfl]at D;conv=>whnf
 clear J;refine⟨Nat×List al,λq=>⟨[(0,.ptr 100034 0),(3,.ptr 3 0),(4,.ptr 4 0),(25,.d<|.slice 1<|x.ar.map dq),(26,aj ((x.ar.map dq).length:Int)),(27,aj q.1)],(3,.box<|(bw x).map .d)::(4,.box<|(aV I).map .d)::bK {o with aF:=q.2}⟩,
  λq=>q.1<=x.ar.length/\q.2++cW o x (x.ar.drop q.1)=cW o x x.ar/\q.2.length<=q.1,λq=>x.ar.length-q.1,⟨(0,[]),⟨Nat.zero_le _,rfl,Nat.le_refl _⟩,aq.keep (by repeat' (first|exact trivial|refine⟨⟨rfl,rfl⟩,?_⟩)) ⟨⟨rfl,rfl⟩,⟨rfl,rfl⟩,⟨rfl,rfl⟩,⟨rfl,rfl⟩,⟨congrArg (λr:List al=>some<|Blk.row 72 3<|r.map aP) hL,rfl⟩,⟨rfl,rfl⟩,trivial⟩⟩,?_⟩
 rintro⟨k,W⟩ ⟨hk,j,Z⟩;dsimp only at hk j Z;conv=>whnf
 refine aD ?_ ?_<;>intro h1
 .have H:k<x.ar.length:=by simp at h1;omega
  obtain⟨n,T⟩:∃n,x.ar[k]? =some n:=⟨_,ao H⟩
  have hd:cW o x (x.ar.drop k)=(if (!o.w.ah.any (ff n x.ai))=true then[⟨n,o.ai⟩]else[])++cW o x (x.ar.drop<|k+1):=by
   rw[drop_cons T];unfold cW;rw[List.filter_cons];split<;>rfl
  rw[hd, <- List.append_assoc]at j;refine⟨aB k,dq n,aL T,M ?_⟩
  have hC:=bZ (pv' :=pvW)<|lift (cx' :=kq) (mK o.w n x.ai<|by omega) rfl rfl;generalize o.w.ah.any (ff n x.ai)=c at hC j
  (refine cn<|M ?_)
  refine⟨[3,4,100034,90032,90040,90041],_,hC,⟨rfl,rfl,rfl⟩,M ?_⟩
  refine aN<|M ?_
  cases c with
  |true =>
   rw[if_neg<|by decide,List.append_nil]at j;conv=>whnf
   exact⟨(k+1,W),⟨H,j,by dsimp only;omega⟩,by(show x.ar.length-(k+1)<x.ar.length-k;omega),aq.keep⟩
  |false =>
   rw[if_pos<|by decide]at j;conv=>whnf
   have hP:=lift (cx' :=kq) (tA {o with aF:=W} n o.ai (dP hz) (by dsimp only;omega)) rfl rfl;refine⟨[3,4],_,hP,⟨rfl,rfl,rfl⟩,M ?_⟩
   refine aN<|M ?_
   exact⟨(k+1,W++[⟨n,o.ai⟩]),⟨H,j,by simp;omega⟩,by(show x.ar.length-(k+1)<x.ar.length-k;omega),aq.keep⟩
 .obtain rfl:k=x.ar.length:=by simp at h1;omega
  rw[List.drop_length]at j;have j:W=cW o x x.ar:=by rw[<- j];exact(List.append_nil _).symm
  have kc:=Fz o x x.ar;subst j;have U:∀p∈cW o x x.ar,p.ai=o.ai:=λp hp=>by
   unfold cW at hp;obtain⟨q,_,rfl⟩:=List.mem_map.1 hp;rfl
  have K:=lift (cx' :=kq) (Bx {o with aF:=cW o x x.ar} o.ai.ag hn (by dsimp only;omega) (by dsimp only;omega) N (λp hp=>by rw[U p hp];have:=(dP hz).1;omega) (λp hp=>by rw[U p hp])) rfl rfl;rw[Dv]at K;refine⟨[3,4],_,K,⟨rfl,rfl,rfl⟩,M ?_⟩
  refine aN<|M ?_
  have X:=Rl (fp {o with aF:=cW o x x.ar}) x I hn hl Y hh rfl (by
   show(o.bu++_).length<=100
   rw[List.length_append];split<;>simp<;>omega) (λa=>by
   have:=lT o.w (cW o x x.ar) o.got a;have e:bz o.got a=[]:=by rw[N];rfl
   rw[e]at this;show(bz (dA o.w o.got<|cW o x x.ar) a).length<=1000
   simp at this;omega) hz<|G rfl
  conv at X=>whnf
  rw[<- D]at X;exact gW X<|aq.keep
end Go.Proofs.YtjojkakjmoefaaaGreatDoor

namespace NQ
open Go Go.RowKit
def FnP.Yw{cx:Cx}{pv:Int->Value}{f:FuncId}{args:List AV}{ds:List D}{h:List<|Nat×Blk}{out:Option<|AV×List (Nat×Blk)}(e:cB ju args=some ds)(U:FnP cx pv f (ds.map AV.d) h out):FnP cx pv f args h out:=by
 obtain⟨V,W⟩:=cF e;refine⟨U.1,λO w σ vs Z X J G Y T I=>U.2 O w σ vs Z X J G Y (by rw[au,V];exact T) λj c H=>?_⟩;rw[bc]at H;cases K:ds[j]? with
 |none=>rw[K]at H;cases H
 |some d =>
  rw[K]at H;cases H;obtain⟨c,hc,N⟩:=W j d K;exact .d _ _<|kG N<|I j c hc
end NQ

namespace Go.Proofs.YtjojkakjmoefaaaGreatDoor
open NQ Go.RowKit
def Rz(x:bG)(s:Signed):Bool:=(bD s.set.name x.name).1
def fQ(j:ax)(l:List Int):List al:=l.map λn=>⟨n,j⟩
def UX(o:bB)(x:bG):ax:=dj o.w o.aJ x.name x.ar<|bN (bN (vS (Rz x) o.ai) x.name 2 o.aJ<|cZ o.w x.ar) x.name 6 o.aJ<|keyOf x
def tI(o:bB)(x:bG):Option bB:=match cY o.since o.aT (UX o x)with
 |none=>none
 |some z=>some<|cR<|ba o z
def tG(o:bB)(x:bG)(j:ax):Option bB:=tI (fp {o with aF:=fQ j x.ar}) x
attribute [local irreducible] NQ.FnP
noncomputable def fW:Cx:={cx with chg:=ja [(67,10),(73,9),(82,9),(133,9),(81,9),(34,11),(61,9),(64,9),(68,9),(66,9),(70,9),(69,9),(65,9)],bld:=[74]}
def acB:bC fW:=bf
def aao:fW.P.follows .mixedOrders=true:=mixed
def Kn:Nat->List Nat:=fun|1=>[33333]|2=>[33333,55555]|4=>[33333,55555,3]|5=>[55555]|10=>[33333,55555]|11=>[33333]|12=>[33333,55555,90020]|13=>[55555]|16=>[33333]|18=>[33333,55555]|19=>[33333,55555]|20=>[33333]|_=>[]
noncomputable abbrev EJ:Code:=(Tryz.f38).body.getD .skip
noncomputable abbrev Sc:List ResultVar:=(Tryz.f38).results.toList
def LW(F:FuncId)(x:bG):FnP cxW pv0 82 [.d<|.fn F [] [.ptr<|bw x]] []<|some (woA F x,[]):=by
 refine bq [] (fun|1=>[1]|_=>[]) tyW wG Tryz.func82 ?_;conv=>whnf
 exact jW rfl rfl rfl
def BU(F:FuncId)(x:bG):FnP cxW pv0 82 [.fn F [] [.d<|.ptr<|bw x]] []<|some (woA F x,[]):=FnP.Yw (ds:=[.fn F [] [.ptr<|bw x]]) rfl<|LW F x
def Ol(o:bB)(x:bG)(hn:o.w.ah.length<=1000)(hl:x.ar.length<=1000)(W:x.ar≠[])(hh:∀n∈x.ar,cr o.w n=true)(hp:o.aF=[])(hs:o.bu.length<=100)(D:∀a,(bz o.got a).length<=1000)(hz:aW o.ai=true) :
 vcp fW [100003,100004] pvW 135 Kn (λ_=>ku (tI o x)=none) ((iH 19 EJ).getD .skip) (qi fW [100003,100004] Sc<|ku<|tI o x)
  ⟨[(0,.ptr 100034 0),(3,.d<|.ptr<|bw x),(7,.d<|.slice 3<|(cZ o.w x.ar).map aS),(8,pn x.ar x.name)],gBz o⟩:=by
 conv=>whnf
 refine⟨_,aq.refl _,M ?_⟩
 obtain⟨r,j⟩:∃r,r=tI o x:=⟨_,rfl⟩
 rw[<- j];have G:=vU o.w x.ar;have N:cZ o.w x.ar≠[]:=λe=>by rw[e]at G;exact W<|List.eq_nil_of_length_eq_zero G.symm
 have I:=lift (cx' :=fW) (RR o o.ai (Rz x) x x.name 2 o.aJ (cZ o.w x.ar) 6 (keyOf x) x.name x.ar (dP hz) hh hl (by omega) (by simp[keyOf]) (λs=>OD s x) λh=>kH (rT _ _ _ _<|jd (jd (WS _<|oa hz) N)<|by simp[keyOf]) h) rfl rfl;unfold tI UX at j;generalize cZ o.w x.ar=sv at G N I j ⊢;have hW:=bZ (pv' :=pvW)<|lift (cx' :=fW) (BU 85 x) rfl rfl;have Z:=bZ (pv' :=pvW)<|lift (cx' :=fW) (rA x.key) rfl rfl;have Y:=bZ (pv' :=pvW)<|lift (cx' :=fW) (fu x.name 2 o.aJ sv) rfl rfl;have H:=bZ (pv' :=pvW)<|lift (cx' :=fW) (fu x.name 6 o.aJ<|keyOf x) rfl rfl
 cases X:cY o.since o.aT (dj o.w o.aJ x.name x.ar<|bN (bN (vS (Rz x) o.ai) x.name 2 o.aJ sv) x.name 6 o.aJ<|keyOf x)with
 |none =>
  rw[X]at I j;subst j
  (refine cn<|M ?_)
  repeat' (first
  |(refine db<|M ?_)
  |(refine⟨[100003,100034,90032,90040,90041],_,hW,⟨rfl,rfl,rfl⟩,?_⟩;(conv=>whnf);refine aN ?_;((conv=>arg 2;arg 1;reduce);(conv=>arg 2;arg 2;tactic=>(refine Eq.trans (b:=gBz o) ?_ rfl;kernel_rfl)));(conv=>whnf))
  |(refine⟨[100003,100034,90032,90040,90041],_,Z,⟨rfl,rfl,rfl⟩,?_⟩;(conv=>whnf);refine aN ?_;((conv=>arg 2;arg 1;reduce);(conv=>arg 2;arg 2;tactic=>(refine Eq.trans (b:=gBz o) ?_ rfl;kernel_rfl)));(conv=>whnf))
  |(refine⟨[100003,100034,90032,90040,90041],_,Y,⟨rfl,rfl,rfl⟩,?_⟩;(conv=>whnf);refine aN ?_;((conv=>arg 2;arg 1;reduce);(conv=>arg 2;arg 2;tactic=>(refine Eq.trans (b:=gBz o) ?_ rfl;kernel_rfl)));(conv=>whnf))
  |(refine⟨[100003,100034,90032,90040,90041],_,H,⟨rfl,rfl,rfl⟩,?_⟩;(conv=>whnf);refine aN ?_;((conv=>arg 2;arg 1;reduce);(conv=>arg 2;arg 2;tactic=>(refine Eq.trans (b:=gBz o) ?_ rfl;kernel_rfl)));(conv=>whnf))
  |exact⟨[],_,I,⟨by kernel_rfl,by kernel_rfl,by kernel_rfl⟩,rfl⟩
  |(refine And.intro ?_ ?_<;>(conv=>whnf)))
 |some z =>
 rw[X]at I j;dsimp only at j;have T:=dP<|eT X;have V:=lift (cx' :=fW) (mn o z T hn (by rw[hp];simp)<|D _) rfl rfl;have J:=yi o z;have kb:=D z.ag;rw[hp]at J;simp only[List.length_nil]at J;have K:∀p∈(ba o z).aF,p.ai=z/\kY o.w o.got p=false:=λp h=>by
  rcases vV h with h|h
  .rw[hp]at h;cases h
  .exact h
 have U:=lift (cx' :=fW) (mJ (ba o z) hn (by omega) (by show o.bu.length<=1000;omega) D (λp h=>by rw[(K p h).1];have:=T.1;omega) λp h=>(K p h).2) rfl rfl
 (refine cn<|M ?_)
 repeat' (first
  |(refine db<|M ?_)
  |(refine⟨[100003,100034,90032,90040,90041],_,hW,⟨rfl,rfl,rfl⟩,?_⟩;(conv=>whnf);refine aN ?_;((conv=>arg 2;arg 1;reduce);(conv=>arg 2;arg 2;tactic=>(refine Eq.trans (b:=gBz o) ?_ rfl;kernel_rfl)));(conv=>whnf))
  |(refine⟨[100003,100034,90032,90040,90041],_,Z,⟨rfl,rfl,rfl⟩,?_⟩;(conv=>whnf);refine aN ?_;((conv=>arg 2;arg 1;reduce);(conv=>arg 2;arg 2;tactic=>(refine Eq.trans (b:=gBz o) ?_ rfl;kernel_rfl)));(conv=>whnf))
  |(refine⟨[100003,100034,90032,90040,90041],_,Y,⟨rfl,rfl,rfl⟩,?_⟩;(conv=>whnf);refine aN ?_;((conv=>arg 2;arg 1;reduce);(conv=>arg 2;arg 2;tactic=>(refine Eq.trans (b:=gBz o) ?_ rfl;kernel_rfl)));(conv=>whnf))
  |(refine⟨[100003,100034,90032,90040,90041],_,H,⟨rfl,rfl,rfl⟩,?_⟩;(conv=>whnf);refine aN ?_;((conv=>arg 2;arg 1;reduce);(conv=>arg 2;arg 2;tactic=>(refine Eq.trans (b:=gBz o) ?_ rfl;kernel_rfl)));(conv=>whnf))
  |(refine⟨[],_,I,⟨by kernel_rfl,by kernel_rfl,by kernel_rfl⟩,?_⟩;(conv=>whnf);refine aN ?_;((conv=>arg 2;arg 1;reduce);(conv=>arg 2;arg 2;tactic=>(refine Eq.trans (b:=gBz o) ?_ rfl;kernel_rfl)));(conv=>whnf))
  |(refine⟨[100003],_,V,⟨by kernel_rfl,by kernel_rfl,by kernel_rfl⟩,?_⟩;(conv=>whnf);refine aN ?_;((conv=>arg 2;arg 1;reduce);(conv=>arg 2;arg 2;tactic=>(refine Eq.trans (b:=gBz<|ba o z) ?_ rfl;kernel_rfl)));(conv=>whnf))
  |(refine⟨[100003],_,U,⟨by kernel_rfl,by kernel_rfl,by kernel_rfl⟩,?_⟩;(conv=>whnf);refine aN ?_;((conv=>arg 2;arg 1;reduce);(conv=>arg 2;arg 2;tactic=>(refine Eq.trans (b:=gBz<|cR<|ba o z) ?_ rfl;kernel_rfl)));(conv=>whnf))
  |(refine And.intro ?_ ?_<;>(conv=>whnf)))
 all_goals subst j
 all_goals exact .inl ⟨[],aq.keep,rfl⟩
def Oj(o:bB)(x:bG)(j:ax)(K:ZSm j)(X:o.w.ah.length<=1000)(hl:x.ar.length<=1000)(U:x.ar≠[])(Z:∀n∈x.ar,cr o.w n=true)(hp:o.aF=[])(hs:o.bu.length<=50)(G:o.got=[])(hz:aW o.ai=true) :
 vcp fW [100003,100004] pvW 135 Kn (λ_=>ku (tG o x j)=none) ((iH 13 EJ).getD .skip) (qi fW [100003,100004] Sc<|ku<|tG o x j)
  ⟨[(0,.ptr 100034 0),(3,.d<|.ptr<|bw x),(5,.ptr 100004 0),(7,.d<|.slice 3<|(cZ o.w x.ar).map aS),(8,pn x.ar x.name)],(100004,.box<|(aV j).map .d)::gBz o⟩:=by
 conv=>whnf
 refine⟨_,aq.refl _,M ?_⟩
 generalize V:cZ o.w x.ar=W
 refine⟨Nat,λk=>⟨[(0,.ptr 100034 0),(3,.d<|.ptr<|bw x),(5,.ptr 100004 0),(7,.d<|.slice 3<|W.map aS),(8,pn x.ar x.name),(90,.d<|.slice 1<|x.ar.map dq),(91,aj ((x.ar.map dq).length:Int)),(92,aj k)],(100004,.box<|(aV j).map .d)::gBz {o with aF:=fQ j<|x.ar.take k}⟩,
  λk=>k<=x.ar.length,λk=>x.ar.length-k,⟨0,Nat.zero_le _,aq.keep (by repeat' (first|exact trivial|refine⟨⟨rfl,rfl⟩,?_⟩)) ⟨⟨rfl,rfl⟩,⟨rfl,rfl⟩,⟨rfl,rfl⟩,⟨rfl,rfl⟩,⟨congrArg (λr:List al=>some<|Blk.row 72 3<|r.map aP) hp,rfl⟩,⟨rfl,rfl⟩,trivial⟩⟩,λk hk=>?_⟩
 conv=>whnf
 refine aD ?_ ?_<;>intro h1
 .have H:k<x.ar.length:=by simp at h1;omega
  obtain⟨n,I⟩:∃n,x.ar[k]? =some n:=⟨_,ao H⟩
  refine⟨aB k,dq n,aL I,M ?_⟩
  have Y:=lift (cx' :=fW) (tA {o with aF:=fQ j<|x.ar.take k} n j K (by simp[fQ];omega)) rfl rfl;refine⟨[100003,100004],_,Y,⟨rfl,rfl,rfl⟩,M ?_⟩
  refine aN<|M ?_
  have e:fQ j (x.ar.take k)++[⟨n,j⟩]=fQ j (x.ar.take<|k+1):=by
   unfold fQ;rw[List.take_add_one,I];simp
  exact⟨k+1,H,by(show x.ar.length-(k+1)<x.ar.length-k;omega),aq.keep ⟨ae,ae,ae,ae,ae,ae,ae,⟨bj (k:=k)<|by omega,rfl⟩,trivial⟩ ⟨ae,ae,ae,ae,⟨congrArg (λr:List al=>some<|Blk.row 72 3<|r.map aP) e,rfl⟩,ae,trivial⟩⟩
 .obtain rfl:k=x.ar.length:=by simp at h1;omega
  have e:fQ j (x.ar.take x.ar.length)=fQ j x.ar:=by rw[List.take_length]
  refine⟨_,aq.keep (sl:=[(0,.ptr 100034 0),(3,.d<|.ptr<|bw x),(7,.d<|.slice 3<|W.map aS),(8,pn x.ar x.name)]) (h:=gBz {o with aF:=fQ j x.ar}) (by repeat' (first|exact trivial|refine⟨⟨rfl,rfl⟩,?_⟩)) ⟨⟨rfl,rfl⟩,⟨rfl,rfl⟩,⟨rfl,rfl⟩,⟨congrArg (λr:List al=>some<|Blk.row 72 3<|r.map aP) e,rfl⟩,⟨rfl,rfl⟩,trivial⟩,?_⟩;conv=>whnf
  have J:∀p∈fQ j x.ar,p.ai=j:=λp h=>by
   unfold fQ at h;obtain⟨q,_,rfl⟩:=List.mem_map.1 h;rfl
  have hM:(fQ j x.ar).length=x.ar.length:=by simp[fQ]
  have D:=lift (cx' :=fW) (Bx {o with aF:=fQ j x.ar} j.ag X (by dsimp only;omega) (by dsimp only;omega) G (λp h=>by rw[J p h];have:=K.1;omega) (λp h=>by rw[J p h])) rfl rfl;rw[Dv]at D;refine⟨[100003],_,D,⟨rfl,rfl,rfl⟩,M ?_⟩
  refine aN<|M ?_
  have T:=Ol (fp {o with aF:=fQ j x.ar}) x X hl U Z rfl (by
   show(o.bu++_).length<=100
   rw[List.length_append];split<;>simp<;>omega) (λa=>by
   have:=lT o.w (fQ j x.ar) o.got a;have e:bz o.got a=[]:=by rw[G];rfl
   rw[e]at this;show(bz (dA o.w o.got<|fQ j x.ar) a).length<=1000
   simp at this;omega) hz
  have N:cZ (fp {o with aF:=fQ j x.ar}).w x.ar=W:=V;rw[N]at T;conv at T=>whnf
  exact gW T<|aq.keep
def Ec(x:bG)(s:Signed):Bool:=decide (s.set.type=8)|| !(bD s.set.name x.name).1
def mg(s:Signed):Signed:=⟨s.set,[]⟩
def acg(o:bB)(x:bG):ax:=⟨x.name,(o.ai.af.filter λs=> !Ec x s).map mg⟩
def acf(o:bB)(x:bG)(st:cH):ax:=dj o.w o.aJ x.name x.ar<|bN (bN (bN (acg o x) x.name 2 o.aJ<|cZ o.w x.ar) x.name 4 st.aJ [⟨[],0,(ph st).m⟩]) x.name 7 o.aJ<|keyOf x
def zV(o:bB)(x:bG)(st:cH)(l:List Signed):Option bB:=match cY o.since o.aT (dj o.w o.aJ x.name x.ar<|bN (bN (bN ⟨x.name,l.map mg⟩ x.name 2 o.aJ<|cZ o.w x.ar) x.name 4 st.aJ [⟨[],0,(ph st).m⟩]) x.name 7 o.aJ<|keyOf x)with
 |none=>none
 |some j=>tG o x j
def uz(o:bB)(x:bG):Option bB:=if (wfR o.ai x.ai 4).2=true then(match cY o.since o.aT (acf o x (wfR o.ai x.ai 4).1)with
 |none=>none
 |some j=>tG o x j)else none
def Se(o:bB)(x:bG)(st:cH)(m:List Signed)(G:List Datum)(H:Datum)(Y:ZSm ⟨x.name,m⟩)(X:nT ⟨x.name,m⟩)(D:(st.data.map aS)[(0:Int).toNat]? =some (aS H))(km:G.length=x.ar.length)(xe:G≠[])(kn:cZ o.w x.ar=G)(hn:o.w.ah.length<=1000)(hl:x.ar.length<=1000)(W:x.ar≠[])(hh:∀n∈x.ar,cr o.w n=true)(hp:o.aF=[])(hs:o.bu.length<=50)(V:o.got=[])(hz:aW o.ai=true)(r:Option bB)
 (N:r=match cY o.since o.aT (dj o.w o.aJ x.name x.ar<|bN (bN (bN ⟨x.name,m⟩ x.name 2 o.aJ G) x.name 4 st.aJ [⟨[],0,H.m⟩]) x.name 7 o.aJ<|keyOf x)with
  |none=>none
  |some j=>tG o x j) :
 vcp fW [100003,100004] pvW 135 Kn (λ_=>ku r=none) ((iH 12 EJ).getD .skip) (qi fW [100003,100004] Sc<|ku r)
  ⟨[(0,.ptr 100034 0),(3,.d<|.ptr<|bw x),(4,.ptr 4 0),(5,.ptr 100004 0),(7,.d<|.slice 3<|G.map aS),(8,pn x.ar x.name)],gV ⟨x.name,m⟩++(4,.box<|(bV st).map .d)::gBz o⟩:=by
 conv=>whnf
 refine⟨_,aq.refl _,M ?_⟩
 have T:=lift (cx' :=fW) (RQ o ⟨x.name,m⟩ x.name 2 o.aJ G 4 st.aJ [⟨[],0,H.m⟩] 7 (keyOf x) x.name x.ar Y hh hl (by omega) (by simp) (by simp[keyOf]) λh=>kH (rT _ _ _ _<|jd (jd (jd X xe)<|by simp)<|by simp[keyOf]) h) rfl rfl;have I:=bZ (pv' :=pvW)<|lift (cx' :=fW) (fu x.name 2 o.aJ G) rfl rfl;have J:=bZ (pv' :=pvW)<|lift (cx' :=fW) (fu x.name 4 st.aJ [⟨[],0,H.m⟩]) rfl rfl;have K:=bZ (pv' :=pvW)<|lift (cx' :=fW) (fu x.name 7 o.aJ<|keyOf x) rfl rfl;have hK:=bZ (pv' :=pvW)<|lift (cx' :=fW) (rA x.key) rfl rfl
 cases Z:cY o.since o.aT (dj o.w o.aJ x.name x.ar<|bN (bN (bN ⟨x.name,m⟩ x.name 2 o.aJ G) x.name 4 st.aJ [⟨[],0,H.m⟩]) x.name 7 o.aJ<|keyOf x)with
 |none =>
  rw[Z]at T N;subst N
  (refine cn<|M ?_)
  repeat' (first
  |(refine db<|M ?_)
  |(refine⟨Int.le_refl 0,aS H,D,M ?_⟩)
  |(refine⟨[4,100003,100004,100034,90032,90040,90041],_,I,⟨rfl,rfl,rfl⟩,?_⟩;(conv=>whnf);refine aN ?_;((conv=>arg 2;arg 1;reduce);(conv=>arg 2;arg 2;tactic=>(refine Eq.trans (b:=(100004,.box<|(aV ⟨x.name,m⟩).map .d)::(4,.box<|(bV st).map .d)::gBz o) ?_ rfl;kernel_rfl)));(conv=>whnf))
  |(refine⟨[4,100003,100004,100034,90032,90040,90041],_,J,⟨rfl,rfl,rfl⟩,?_⟩;(conv=>whnf);refine aN ?_;((conv=>arg 2;arg 1;reduce);(conv=>arg 2;arg 2;tactic=>(refine Eq.trans (b:=(100004,.box<|(aV ⟨x.name,m⟩).map .d)::(4,.box<|(bV st).map .d)::gBz o) ?_ rfl;kernel_rfl)));(conv=>whnf))
  |(refine⟨[4,100003,100004,100034,90032,90040,90041],_,hK,⟨rfl,rfl,rfl⟩,?_⟩;(conv=>whnf);refine aN ?_;((conv=>arg 2;arg 1;reduce);(conv=>arg 2;arg 2;tactic=>(refine Eq.trans (b:=(100004,.box<|(aV ⟨x.name,m⟩).map .d)::(4,.box<|(bV st).map .d)::gBz o) ?_ rfl;kernel_rfl)));(conv=>whnf))
  |(refine⟨[4,100003,100004,100034,90032,90040,90041],_,K,⟨rfl,rfl,rfl⟩,?_⟩;(conv=>whnf);refine aN ?_;((conv=>arg 2;arg 1;reduce);(conv=>arg 2;arg 2;tactic=>(refine Eq.trans (b:=(100004,.box<|(aV ⟨x.name,m⟩).map .d)::(4,.box<|(bV st).map .d)::gBz o) ?_ rfl;kernel_rfl)));(conv=>whnf))
  |exact⟨[4,100004],_,T,⟨by kernel_rfl,by kernel_rfl,by kernel_rfl⟩,rfl⟩
  |(refine And.intro ?_ ?_<;>(conv=>whnf)))
 |some j =>
 rw[Z]at T N;dsimp only at N;have hN:=dP<|eT Z;have U:=Oj o x j hN hn hl W hh hp hs V hz;rw[kn, <- N]at U;conv at U=>whnf
 (refine cn<|M ?_)
 repeat' (first
  |(refine db<|M ?_)
  |(refine⟨Int.le_refl 0,aS H,D,M ?_⟩)
  |(refine⟨[4,100003,100004,100034,90032,90040,90041],_,I,⟨rfl,rfl,rfl⟩,?_⟩;(conv=>whnf);refine aN ?_;((conv=>arg 2;arg 1;reduce);(conv=>arg 2;arg 2;tactic=>(refine Eq.trans (b:=(100004,.box<|(aV ⟨x.name,m⟩).map .d)::(4,.box<|(bV st).map .d)::gBz o) ?_ rfl;kernel_rfl)));(conv=>whnf))
  |(refine⟨[4,100003,100004,100034,90032,90040,90041],_,J,⟨rfl,rfl,rfl⟩,?_⟩;(conv=>whnf);refine aN ?_;((conv=>arg 2;arg 1;reduce);(conv=>arg 2;arg 2;tactic=>(refine Eq.trans (b:=(100004,.box<|(aV ⟨x.name,m⟩).map .d)::(4,.box<|(bV st).map .d)::gBz o) ?_ rfl;kernel_rfl)));(conv=>whnf))
  |(refine⟨[4,100003,100004,100034,90032,90040,90041],_,hK,⟨rfl,rfl,rfl⟩,?_⟩;(conv=>whnf);refine aN ?_;((conv=>arg 2;arg 1;reduce);(conv=>arg 2;arg 2;tactic=>(refine Eq.trans (b:=(100004,.box<|(aV ⟨x.name,m⟩).map .d)::(4,.box<|(bV st).map .d)::gBz o) ?_ rfl;kernel_rfl)));(conv=>whnf))
  |(refine⟨[4,100003,100004,100034,90032,90040,90041],_,K,⟨rfl,rfl,rfl⟩,?_⟩;(conv=>whnf);refine aN ?_;((conv=>arg 2;arg 1;reduce);(conv=>arg 2;arg 2;tactic=>(refine Eq.trans (b:=(100004,.box<|(aV ⟨x.name,m⟩).map .d)::(4,.box<|(bV st).map .d)::gBz o) ?_ rfl;kernel_rfl)));(conv=>whnf))
  |(refine⟨[4,100004],_,T,⟨by kernel_rfl,by kernel_rfl,by kernel_rfl⟩,?_⟩;(conv=>whnf);refine aN ?_;((conv=>arg 2;arg 1;reduce);(conv=>arg 2;arg 2;tactic=>(refine Eq.trans (b:=(100004,.box<|(aV ⟨x.name,m⟩).map .d)::(4,.box<|(bV st).map .d)::gBz o) ?_ rfl;kernel_rfl)));(conv=>whnf))
  |(refine And.intro ?_ ?_<;>(conv=>whnf)))
 all_goals exact gW U<|aq.keep
def Va(o:bB)(x:bG)(st:cH)(l:List Signed)(H:ZSm ⟨x.name,l⟩)(Z:nT ⟨x.name,l⟩)(hA:st.data≠[])(hn:o.w.ah.length<=1000)(hl:x.ar.length<=1000)(T:x.ar≠[])(hh:∀n∈x.ar,cr o.w n=true)(hp:o.aF=[])(hs:o.bu.length<=50)(ka:o.got=[])(hz:aW o.ai=true) :
 vcp fW [100003,100004] pvW 135 Kn (λ_=>ku (zV o x st l)=none) ((iH 5 EJ).getD .skip) (qi fW [100003,100004] Sc<|ku<|zV o x st l)
  ⟨[(0,.ptr 100034 0),(3,.d<|.ptr<|bw x),(4,.ptr 4 0),(5,.ptr 100004 0)],gV ⟨x.name,l⟩++(4,.box<|(bV st).map .d)::bK o⟩:=by
 conv=>whnf
 refine⟨_,aq.refl _,M ?_⟩
 obtain⟨r,J⟩:∃r,r=zV o x st l:=⟨_,rfl⟩
 rw[<- J];have xk:l.length<=20000:=H.1;refine⟨Nat,λk=>⟨[(0,.ptr 100034 0),(3,.d<|.ptr<|bw x),(4,.ptr 4 0),(5,.ptr 100004 0),(32,aj ((l.map an).length:Int)),(33,aj k)],gV ⟨x.name,(l.take k).map mg++l.drop k⟩++(4,.box<|(bV st).map .d)::bK o⟩,
  λk=>k<=l.length,λk=>l.length-k,⟨0,Nat.zero_le _,aq.keep⟩,λk hk=>M ?_⟩
 refine aD ?_ ?_<;>intro h1
 .have j:k<l.length:=by simp at h1;omega
  obtain⟨s,I⟩:∃s,l[k]? =some s:=⟨_,ao j⟩
  refine⟨aB k,by simp;omega,M ?_⟩
  have K:(((l.take k).map mg++l.drop k).map an)[k]? =some (an s):=by
   rw[bc,cL<|by simp;omega];simp[Nat.min_eq_left<|Nat.le_of_lt j,I]
  refine⟨an s,K,M ?_⟩
  have e:(((l.take k).map mg++l.drop k).map an).set k (an<|mg s)=((l.take<|k+1).map mg++l.drop (k+1)).map an:=by
   rw[<- List.map_set,List.set_append_right _ _<|by simp;omega,drop_cons I,List.take_add_one,I];simp[Nat.min_eq_left<|Nat.le_of_lt j]
  exact⟨k+1,j,by(show l.length-(k+1)<l.length-k;omega),aq.keep ⟨ae,ae,ae,ae,ae,⟨bj (k:=k)<|by omega,rfl⟩,trivial⟩ ⟨ae,⟨congrArg (λr=>some<|Blk.row 75 5 r) e,rfl⟩,ae,ae,ae,ae,ae,trivial⟩⟩
 .obtain rfl:k=l.length:=by simp at h1;omega
  have e:((l.take l.length).map mg++l.drop l.length).map an=(l.map mg).map an:=by rw[List.take_length,List.drop_length,List.append_nil]
  refine⟨_,aq.keep (sl:=[(0,.ptr 100034 0),(3,.d<|.ptr<|bw x),(4,.ptr 4 0),(5,.ptr 100004 0)]) (h:=gV ⟨x.name,l.map mg⟩++(4,.box<|(bV st).map .d)::bK o) (by repeat' (first|exact trivial|refine⟨⟨rfl,rfl⟩,?_⟩)) ⟨⟨rfl,rfl⟩,⟨congrArg (λr=>some<|Blk.row 75 5 r) e,rfl⟩,⟨rfl,rfl⟩,⟨rfl,rfl⟩,⟨rfl,rfl⟩,⟨rfl,rfl⟩,⟨rfl,rfl⟩,trivial⟩,?_⟩;unfold zV at J;have V:ZSm ⟨x.name,l.map mg⟩:=⟨by show(l.map mg).length<=_;rw[au];exact H.1,λs h=>by
   obtain⟨q,hq,rfl⟩:=List.mem_map.1 h;exact⟨(H.2 q hq).1,by simp[mg]⟩⟩
  have U:nT ⟨x.name,l.map mg⟩:=λs h=>by
   obtain⟨q,hq,rfl⟩:=List.mem_map.1 h;exact Z q hq
  generalize l.map mg=m at V U J ⊢
  conv=>whnf
  have D:=vU o.w x.ar;have W:cZ o.w x.ar≠[]:=λe=>by rw[e]at D;exact T<|List.eq_nil_of_length_eq_zero D.symm
  have hV:=bZ (pv' :=pvW)<|lift (cx' :=fW) (vT o.w x.ar hl hh) rfl rfl;obtain⟨X,dt,G⟩:∃d t,st.data=d::t:=by
   cases hc:st.data with
   |nil=>exact absurd hc hA
   |cons d t=>exact⟨d,t,rfl⟩
  have Y:ph st=X:=by unfold ph;rw[G]
  have N:(st.data.map aS)[(0:Int).toNat]? =some (aS X):=by rw[G];rfl
  rw[Y]at J;generalize kn:cZ o.w x.ar=sv at D W hV J
  (refine cn<|M ?_)
  refine⟨[4,100004,90020,100034,90032,90040,90041],_,hV,⟨rfl,rfl,rfl⟩,M ?_⟩
  refine aN ?_
  (conv=>arg 2;arg 1;reduce);(conv=>arg 2;arg 2;tactic=>(refine Eq.trans (b:=gV ⟨x.name,m⟩++(4,.box<|(bV st).map .d)::bK o) ?_ rfl;kernel_rfl))
  conv=>whnf
  repeat (refine db<|M ?_)
  have hG:=bZ (pv' :=pvW)<|lift (cx' :=fW) (Kp o x.name x.ar) rfl rfl;refine⟨[4,100004,90020],_,hG,⟨rfl,rfl,rfl⟩,M ?_⟩
  refine aN ?_
  (conv=>arg 2;arg 1;reduce)
  conv=>whnf
  have hT:=Se o x st m sv X V U N D W kn hn hl T hh hp hs ka hz r J;conv at hT=>whnf
  exact gW hT<|aq.trans (aq.name 90003 100003 rfl rfl)<|aq.keep
def UZ(o:bB)(x:bG)(hn:o.w.ah.length<=1000)(Z:x.ar.length<=1000)(V:x.ar≠[])(Y:∀n∈x.ar,cr o.w n=true)(hp:o.aF=[])(hs:o.bu.length<=50)(U:o.got=[])(H:aW o.ai=true) :
 FnP fW pvW 38 [.ptr 100034 0,.agg<|(bw x).map .d] (bK o) (ku<|uz o x):=by
 refine bq [100003,100004] Kn acB aao Tryz.func38 ?_;conv=>whnf
 obtain⟨r,G⟩:∃r,r=uz o x:=⟨_,rfl⟩
 rw[<- G];unfold uz at G;have j:=xO o.ai x.ai 4 (by have:=(dP H).1;omega);have D:=kH (s:=x.ai) (k:=4)<|oa H;generalize wfR o.ai x.ai 4=st at j G D;obtain⟨st,b⟩:=st;dsimp only at j G D;cases b with
 |false =>
  rw[if_neg<|by decide]at j G;have j:=lift (cx' :=fW) j rfl rfl;subst G
  (refine cn<|M ?_)
  repeat' (first
   |exact⟨[3,100034,90032,90040,90041],_,j,⟨rfl,rfl,rfl⟩,rfl⟩
   |exact⟨[3,4,100034,90032,90040,90041],_,j,⟨rfl,rfl,rfl⟩,rfl⟩
   |(refine db<|M ?_)
   |(refine And.intro ?_ ?_<;>(conv=>whnf)))
 |true =>
 rw[if_pos rfl]at j G;have j:=lift (cx' :=fW) j rfl rfl;have D:=D rfl;apply wm (α:=Unit) (P:=λ_=>True) (canon:=λ_=>⟨[(0,.ptr 100034 0),(3,.ptr 3 0),(4,.ptr 4 0)],(3,.box<|(bw x).map .d)::(4,.box<|(bV st).map .d)::bK o⟩)
 .intro I
  (refine cn<|M ?_)
  repeat' (first
   |(refine db<|M ?_)
   |(refine⟨[3,100034,90032,90040,90041],_,j,⟨rfl,rfl,rfl⟩,?_⟩;(conv=>whnf);refine aN ?_;(conv=>whnf))
   |(refine⟨[3,4,100034,90032,90040,90041],_,j,⟨rfl,rfl,rfl⟩,?_⟩;(conv=>whnf);refine aN ?_;(conv=>whnf))
   |(refine And.intro ?_ ?_<;>(conv=>whnf)))
  all_goals exact pD (aq.keep)<|I () trivial
 rintro _ _;unfold App;conv=>whnf
 clear j;have W:=bZ (pv' :=pvW)<|lift (cx' :=fW) (lZ o.ai (by have:=(dP H).1;omega) (dP H).2) rfl rfl;refine⟨[3,4,100034,90032,90040,90041],_,W,⟨rfl,rfl,rfl⟩,M ?_⟩
 refine aN<|M ?_
 refine⟨_,aq.trans (aq.name 5 100004 rfl rfl)<|aq.keep (sl:=[(0,.ptr 100034 0),(3,.ptr 3 0),(4,.ptr 4 0),(5,.ptr 100004 0)]) (h:=gV ⟨x.name,o.ai.af⟩++(3,.box<|(bw x).map .d)::(4,.box<|(bV st).map .d)::bK o),M ?_⟩
 have X:=bZ (pv' :=pvW)<|lift (cx' :=fW) (BU 83 x) rfl rfl;have K:=bZ (pv' :=pvW)<|lift (cx' :=fW) (Ak ⟨x.name,o.ai.af⟩ (Ec x) 83 x (by have:=(dP H).1;dsimp only;omega) λs=>OC s x) rfl rfl;refine⟨[4,100004,90020,100034,90032,90040,90041],_,X,⟨by kernel_rfl,by kernel_rfl,by kernel_rfl⟩,M ?_⟩
 refine aN ?_
 (conv=>arg 2;arg 1;reduce)
 conv=>whnf
 refine⟨[4,100034,90032,90040,90041],_,K,⟨by kernel_rfl,by kernel_rfl,by kernel_rfl⟩,M ?_⟩
 refine aN ?_
 (conv=>arg 2;arg 1;reduce)
 conv=>whnf
 have T:ZSm ⟨x.name,o.ai.af.filter λs=> !Ec x s⟩:=⟨Nat.le_trans (List.length_filter_le ..) (dP H).1,λs h=>(dP H).2 s (List.mem_filter.1 h).1⟩
 have N:nT ⟨x.name,o.ai.af.filter λs=> !Ec x s⟩:=λs h=>oa H s (List.mem_filter.1 h).1
 have J:=Va o x st _ T N D hn Z V Y hp hs U H;replace G:r=zV o x st (o.ai.af.filter λs=> !Ec x s):=G;rw[<- G]at J;conv at J=>whnf
 exact gW J<|aq.keep
def Xa(l:List Datum)(p:Datum->Bool)(x:D)(Z:l.length<=100000)(X:∀s∈l,NQ.Fn cx 129 [.agg<|aS s,x] (.d<|.bool<|p s) []) :
 NQ.Fn cx 191 [.slice 3<|l.map aS,.fn 129 [] [x]] (aj (match l.findIdx? p with|some k=>(k:Int)|none=> -1)) []:=by
 refine bL bf mixed Tryz.func191 ?_;refine⟨Nat,λk=>⟨[(0,.d<|.slice 3<|l.map aS),(1,.d<|.fn 129 [] [x]),(7,aj ((l.map aS).length:Int)),(8,aj k)],[]⟩,λk=>k<=l.length/\ ∀j y,j<k->l[j]? =some y->p y=false,λk=>l.length-k,
  ⟨0,⟨by omega,λj y h=>by omega⟩,aI.keep⟩,λk U=>?_⟩
 obtain⟨U,G⟩:=U;conv=>whnf
 refine aD ?_ ?_<;>intro h1
 .have I:k<l.length:=by simp at h1;omega
  obtain⟨s,J⟩:∃s,l[k]? =some s:=⟨_,ao I⟩
  refine⟨aB k,aS s,aL J,M ?_⟩
  (refine⟨_,_,X s<|aw J,M ?_⟩)
  refine aD ?_ ?_<;>intro N
  .refine ak rfl ?_;have:l.findIdx? p=some k:=by
    rw[List.findIdx?_eq_some_iff_getElem];obtain⟨V,W⟩:=aA.1 J;refine⟨V,by rw[W];exact N,λj H=>?_⟩;have:=G j (l[j]) H (ao<|by omega);rw[this];decide
   rw[this];rfl
  .refine⟨k+1,⟨I,λj y H K=>?_⟩,by(show l.length-(k+1)<l.length-k;omega),aI.keep⟩;rcases Nat.lt_succ_iff_lt_or_eq.1 H with H|rfl
   .exact G j y H K
   .rw[J]at K;cases K;exact N
 .obtain rfl:k=l.length:=by simp at h1;omega
  refine ak rfl ?_;have:l.findIdx? p=none:=by
   rw[List.findIdx?_eq_none_iff];intro x Y;obtain⟨i,T⟩:=cO Y;exact G i x (aA.1 T).1 T
  rw[this];rfl
def aav(d:Datum)(h:kf):NQ.Fn cx 129 [.agg<|aS d,.ptr<|gG h] (.d<|.bool<|d.n==h.addr) []:=by
 refine bL bf mixed Tryz.func129 ?_;exact ak rfl rfl
def VJ(l:List Datum)(p:Datum->Bool)(x:D)(G:l.length<=100000)(j:∀s∈l,NQ.Fn cx 129 [.agg<|aS s,x] (.d<|.bool<|p s) []) :
 NQ.Fn cx 128 [.slice 3<|l.map aS,.fn 129 [] [x]] (.d<|.bool<|l.any p) []:=by
 refine bL bf mixed Tryz.func128 ?_
 (refine⟨_,_,Xa l p x G j,M ?_⟩)
 refine ak rfl ?_;exact congrArg (λb=>AV.d<|D.bool b)<|Bu p l
def AF(data:List Datum)(j:Int)(i:Nat)(h:kf):Bool:=((i:Int) != j)&&data.any λd=>d.n==h.addr
def qS(data:List Datum)(j:Int):Nat->List kf->List Int
 |_,[]=>[]
 |i,h::t=>(if AF data j i h=true then[(i:Int)]else[])++qS data j (i+1) t
noncomputable def Wt:Cx:={cx with bld:=[]}
def acz:bC Wt:=bf
def aam:Wt.P.follows .mixedOrders=true:=mixed
def KR(o:bB)(data:List Datum)(j:Int)(U:data.length<=100000)(W:o.w.ar.length<=100000):FnP Wt pvW 77 [.ptr 100034 0,.d<|.slice 3<|data.map aS,aj j] (bK o)<|some (.d<|.cS<|dR<|qS data j 0 o.w.ar,bK o):=by
 refine bq [] (fun|5=>[9]|_=>[]) acz aam Tryz.func77 ?_;conv=>whnf
 refine⟨Nat×List Int,λq=>⟨[(0,.ptr 100034 0),(1,.d<|.slice 3<|data.map aS),(2,aj j),(7,.omap 10),(15,.d<|.slice 3<|o.w.ar.map gG),(16,aj ((o.w.ar.map gG).length:Int)),(17,aj q.1)],(10,.cS<|dR q.2)::bK o⟩,
  λq=>q.1<=o.w.ar.length/\q.2++qS data j q.1 (o.w.ar.drop q.1)=qS data j 0 o.w.ar/\ ∀v∈q.2,v<(q.1:Int),λq=>o.w.ar.length-q.1,⟨(0,[]),⟨Nat.zero_le _,rfl,λv h=>by cases h⟩,aq.keep⟩,?_⟩
 rintro⟨k,m⟩ ⟨V,G,H⟩;dsimp only at V G H;conv=>whnf
 refine aD ?_ ?_<;>intro h1
 .have I:k<o.w.ar.length:=by simp at h1;omega
  obtain⟨h,J⟩:∃h,o.w.ar[k]? =some h:=⟨_,ao I⟩
  rw[drop_cons J]at G;have G:m++((if AF data j k h=true then[(k:Int)]else[])++qS data j (k+1) (o.w.ar.drop<|k+1))=qS data j 0 o.w.ar:=G;rw[<- List.append_assoc]at G;refine⟨aB k,gG h,aL J,M ?_⟩
  have skip:AF data j k h=false->m++qS data j (k+1) (o.w.ar.drop<|k+1)=qS data j 0 o.w.ar:=λe=>by rw[if_neg<|by rw[e];decide,List.append_nil]at G;exact G
  have D:∀v∈m,v<((k+1:Nat):Int):=λv h=>by have:=H v h;omega
  refine aD ?_ ?_<;>intro N
  . (refine⟨_,_,VJ data (λd=>d.n==h.addr) (.ptr<|gG h) U λd _=>aav d h,M ?_⟩)
    cases T:data.any (λd=>d.n==h.addr)with
    |true =>
     conv=>whnf
     have K:m.contains (k:Int)=false:=by
      rw[<- Bool.not_eq_true,iJ];intro h;have:=H _ h;omega
     rw[if_pos<|by unfold AF;rw[T,gF];exact N]at G;refine⟨_,Jk K,M ?_⟩
     exact⟨(k+1,m++[(k:Int)]),⟨I,G,λv h=>by
      rcases List.mem_append.1 h with h|h
      .exact D v h
      .rcases List.mem_singleton.1 h with rfl;dsimp only;omega⟩,by(show o.w.ar.length-(k+1)<o.w.ar.length-k;omega),aq.keep⟩
    |false =>
     conv=>whnf
     exact⟨(k+1,m),⟨I,skip<|by unfold AF;rw[T,kW],D⟩,by(show o.w.ar.length-(k+1)<o.w.ar.length-k;omega),aq.keep⟩
  .exact⟨(k+1,m),⟨I,skip<|by unfold AF;rw[show((k:Int) != j)=false from N];rfl,D⟩,by(show o.w.ar.length-(k+1)<o.w.ar.length-k;omega),aq.keep⟩
 .obtain rfl:k=o.w.ar.length:=by simp at h1;omega
  rw[List.drop_length]at G;have G:m=qS data j 0 o.w.ar:=by rw[<- G];exact(List.append_nil _).symm
  subst G;exact iu (aq.vK [10]) rfl rfl rfl
abbrev eQ(s:Bs):List D:=[.str s]
def TU(l:List Bs)(x:Bs)(N:l.length<=100000):NQ.Fn cx 192 [.slice 1<|l.map eQ,.str x] (aj (match l.findIdx? (· ==x)with|some k=>(k:Int)|none=> -1)) []:=by
 refine bL bf mixed Tryz.func192 ?_;refine⟨Nat,λk=>⟨[(0,.d<|.slice 1<|l.map eQ),(1,.d<|.str x),(7,aj ((l.map eQ).length:Int)),(8,aj k)],[]⟩,λk=>k<=l.length/\ ∀j y,j<k->l[j]? =some y->(y==x)=false,λk=>l.length-k,
  ⟨0,⟨by omega,λj y h=>by omega⟩,aI.keep⟩,λk ⟨K,D⟩=>M ?_⟩
 refine aD ?_ ?_<;>intro h1
 .have G:k<l.length:=by simp at h1;omega
  obtain⟨y,I⟩:∃s,l[k]? =some s:=⟨_,ao G⟩
  refine⟨aB k,eQ y,aL I,M ?_⟩
  (refine aD ?_ ?_<;>intro h)
  .refine ak rfl ?_;have:l.findIdx? (· ==x)=some k:=by
    rw[List.findIdx?_eq_some_iff_getElem];refine⟨G,?_,λj H=>?_⟩
    .obtain⟨_,e⟩:=aA.1 I;rw[e];simp at h ⊢;exact h.symm
    .have:=D j l[j] H (ao<|by omega);simpa using this
   rw[this];rfl
  .refine⟨k+1,⟨G,λj z H J=>?_⟩,by(show l.length-(k+1)<l.length-k;omega),aI.keep⟩;rcases Nat.lt_or_eq_of_le (Nat.le_of_lt_succ H)with h2|rfl
   .exact D j z h2 J
   .rw[I]at J;cases J;simp at h ⊢;exact λe=>h e.symm
 .obtain rfl:k=l.length:=by simp at h1;omega
  refine ak rfl ?_;have:l.findIdx? (· ==x)=none:=by
   rw[List.findIdx?_eq_none_iff];intro y I;obtain⟨j,H⟩:=cO I;exact D j y (aA.1 H).1 H
  rw[this];rfl
def yR(l:List Bs)(x:Bs)(G:l.length<=100000):NQ.Fn cx 130 [.slice 1<|l.map eQ,.str x] (.d<|.bool<|l.contains x) []:=by
 refine bL bf mixed Tryz.func130 ?_
 (refine⟨_,_,TU l x G,M ?_⟩)
 refine ak rfl ?_;show AV.d (D.bool (decide ((match l.findIdx? (· ==x)with|some k=>(k:Int)|none=> -1)>=0)))=_
 congr 2
 cases h:l.findIdx? (· ==x)with
 |some k =>
  obtain⟨h1,j,_⟩:=List.findIdx?_eq_some_iff_getElem.1 h;have:l.contains x=true:=by
   rw[iJ];have e:l[k]=x:=by simpa using j
   exact e ▸ List.getElem_mem h1
  rw[this,decide_eq_true];exact aB k
 |none =>
  have:l.contains x=false:=by
   rw[<- Bool.not_eq_true,iJ];intro H;have:=List.findIdx?_eq_none_iff.1 h x H;simp at this
  rw[this];rfl
def mQ(f:al->Bool)(l:List Bs)(p:al):List Bs:=if (f p&& !l.contains p.ai.ag)=true then l++[p.ai.ag]else l
def dS(f:al->Bool)(j:List al):List Bs:=j.foldl (mQ f) []
def Jn{f:al->Bool}{j:List al}{k:Nat}{p:al}(h:j[k]? =some p):dS f (j.take<|k+1)=mQ f (dS f<|j.take k) p:=by
 unfold dS;rw[List.take_add_one,h,List.foldl_append];rfl
def qH(f:al->Bool)(j:List al):(dS f j).length<=j.length:=by
 have:∀(j:List al) (l:List Bs),(j.foldl (mQ f) l).length<=l.length+j.length:=λj=>by
  induction j with
  |nil=>intro l;exact Nat.le_refl _
  |cons p t D =>
   intro l;have h1:=D<|mQ f l p;have G:(mQ f l p).length<=l.length+1:=by
    unfold mQ;split
    .simp
    .omega
   show(t.foldl (mQ f)<|mQ f l p).length<=_
   simp only[List.length_cons];omega
 have:=this j [];simpa [dS] using this
noncomputable def Fp:Cx:={cx with chg:=ja [(79,9),(80,9)],bld:=[33]}
def Sp:bC Fp:=bf
def AK:Fp.P.follows .mixedOrders=true:=mixed
abbrev pt(l:List Int):List<|Nat×Blk:=[(100007,.box [.d<|.cS<|dR l])]
def SG(l:List Int)(p:al):FnP Fp pvW 79 [.agg<|(aP p).map .d,.ptr 100007 0] (pt l)<|some (.d<|.bool<|l.contains p.host,pt l):=by
 refine bq [] (fun|_=>[]) Sp AK Tryz.func79 ?_;conv=>whnf
 refine⟨_,rJ p.host l,?_⟩;cases l.contains p.host with
 |true =>
  conv=>whnf
  exact ck rfl rfl rfl
 |false =>
  conv=>whnf
  exact ck rfl rfl rfl
def SH(p:al):FnP Fp pvW 80 [.agg<|(aP p).map .d] []<|some (.d<|.bool true,[]):=by
 refine bq [] (fun|_=>[]) Sp AK Tryz.func80 ?_;conv=>whnf
 exact jW rfl rfl rfl
def Nh(o:bB)(m:List Int)(U:o.w.ah.length<=1000):FnP Fp pvW 78 [.ptr 100034 0,.fn 79 [] [.ptr 100007 0]] (pt m++bK o)<|some (.d<|.slice 1<|(dS (λp=>m.contains p.host) o.w.ah).map eQ,pt m++bK o):=by
 refine bq [] (fun|5=>[33333]|_=>[]) Sp AK Tryz.func78 ?_;conv=>whnf
 refine⟨Nat,λk=>⟨[(0,.ptr 100034 0),(1,.fn 79 [] [.ptr 100007 0]),(5,.own 55),(12,.d<|.slice 3<|o.w.ah.map aP),(13,aj ((o.w.ah.map aP).length:Int)),(14,aj k)],(55,.row 9 1<|(dS (λp=>m.contains p.host)<|o.w.ah.take k).map eQ)::pt m++bK o⟩,
  λk=>k<=o.w.ah.length,λk=>o.w.ah.length-k,⟨0,Nat.zero_le _,(aq.kz 5 55 1 9 1 rfl rfl<|by decide).trans<|aq.keep⟩,λk T=>M ?_⟩
 refine aD ?_ ?_<;>intro h1
 .have j:k<o.w.ah.length:=by simp at h1;omega
  obtain⟨p,G⟩:∃p,o.w.ah[k]? =some p:=⟨_,ao j⟩
  have H:=Jn (f:=(λp=>m.contains p.host)) G;have K:=qH ((λp=>m.contains p.host))<|o.w.ah.take k;have I:(o.w.ah.take k).length<=k:=by simp;omega
  have skip:((λp=>m.contains p.host) p&& !(dS (λp=>m.contains p.host)<|o.w.ah.take k).contains p.ai.ag)=false->dS (λp=>m.contains p.host) (o.w.ah.take<|k+1)=dS (λp=>m.contains p.host) (o.w.ah.take k):=λe=>by rw[H];unfold mQ;rw[if_neg<|by rw[e];decide]
  refine⟨aB k,aP p,aL G,M ?_⟩
  have N:=SG m p;refine⟨[7,55,100034,90032,90040,90041],_,N,⟨by kernel_rfl,by kernel_rfl,by kernel_rfl⟩,M ?_⟩
  refine aN<|M ?_
  cases D:m.contains p.host with
  |false =>
   conv=>whnf
   have e:=skip (by(show(m.contains p.host&&_)=false);rw[D];rfl);exact⟨k+1,j,by(show o.w.ah.length-(k+1)<o.w.ah.length-k;omega),aq.keep ⟨ae,ae,ae,ae,ae,⟨bj (k:=k)<|by omega,rfl⟩,trivial⟩ ⟨⟨congrArg (λr:List Bs=>some<|Blk.row 9 1<|r.map eQ) e.symm,rfl⟩,ae,ae,ae,ae,ae,trivial⟩⟩
  |true =>
  conv=>whnf
  refine⟨_,yR (dS (λp=>m.contains p.host)<|o.w.ah.take k) p.ai.ag<|by omega,by kernel_rfl,M ?_⟩
  cases J:(dS (λp=>m.contains p.host)<|o.w.ah.take k).contains p.ai.ag with
  |true =>
   conv=>whnf
   have e:=skip (by rw[J];simp);exact⟨k+1,j,by(show o.w.ah.length-(k+1)<o.w.ah.length-k;omega),aq.keep ⟨ae,ae,ae,ae,ae,⟨bj (k:=k)<|by omega,rfl⟩,trivial⟩ ⟨⟨congrArg (λr:List Bs=>some<|Blk.row 9 1<|r.map eQ) e.symm,rfl⟩,ae,ae,ae,ae,ae,trivial⟩⟩
  |false =>
   conv=>whnf
   refine⟨by(show((dS (λp=>m.contains p.host)<|o.w.ah.take k).map eQ).length+1<=_;rw[au];omega),by(show(((dS (λp=>m.contains p.host)<|o.w.ah.take k).map eQ).length+1)*16<=_;rw[au];omega),M ?_⟩
   have e:(dS (λp=>m.contains p.host)<|o.w.ah.take k).map eQ++[[.str p.ai.ag]]=(dS (λp=>m.contains p.host)<|o.w.ah.take<|k+1).map eQ:=by
    rw[H];unfold mQ;rw[if_pos<|by rw[J];show(m.contains p.host&&true)=true;rw[D];rfl,List.map_append];rfl
   exact⟨k+1,j,by(show o.w.ah.length-(k+1)<o.w.ah.length-k;omega),aq.keep ⟨ae,ae,ae,ae,ae,⟨bj (k:=k)<|by omega,rfl⟩,trivial⟩ ⟨⟨congrArg (λr=>some<|Blk.row 9 1 r) e,rfl⟩,ae,ae,ae,ae,ae,trivial⟩⟩
 .obtain rfl:k=o.w.ah.length:=by simp at h1;omega
  exact iu (aq.vK [55]) rfl (by rw[List.take_length];rfl) rfl
def Ni(o:bB)(T:o.w.ah.length<=1000):FnP Fp pvW 78 [.ptr 100034 0,.d<|.fn 80 [] []] (bK o)<|some (.d<|.slice 1<|(dS (λ_=>true) o.w.ah).map eQ,bK o):=by
 refine bq [] (fun|5=>[33333]|_=>[]) Sp AK Tryz.func78 ?_;conv=>whnf
 refine⟨Nat,λk=>⟨[(0,.ptr 100034 0),(1,.d<|.fn 80 [] []),(5,.own 55),(12,.d<|.slice 3<|o.w.ah.map aP),(13,aj ((o.w.ah.map aP).length:Int)),(14,aj k)],(55,.row 9 1<|(dS (λ_=>true)<|o.w.ah.take k).map eQ)::bK o⟩,
  λk=>k<=o.w.ah.length,λk=>o.w.ah.length-k,⟨0,Nat.zero_le _,(aq.kz 5 55 1 9 1 rfl rfl<|by decide).trans<|aq.keep⟩,λk N=>M ?_⟩
 refine aD ?_ ?_<;>intro h1
 .have j:k<o.w.ah.length:=by simp at h1;omega
  obtain⟨p,D⟩:∃p,o.w.ah[k]? =some p:=⟨_,ao j⟩
  have G:=Jn (f:=(λ_=>true)) D;have J:=qH ((λ_=>true))<|o.w.ah.take k;have H:(o.w.ah.take k).length<=k:=by simp;omega
  have skip:((λ_=>true) p&& !(dS (λ_=>true)<|o.w.ah.take k).contains p.ai.ag)=false->dS (λ_=>true) (o.w.ah.take<|k+1)=dS (λ_=>true) (o.w.ah.take k):=λe=>by rw[G];unfold mQ;rw[if_neg<|by rw[e];decide]
  refine⟨aB k,aP p,aL D,M ?_⟩
  have K:=SH p;refine⟨[7,55,100034,90032,90040,90041],_,K,⟨by kernel_rfl,by kernel_rfl,by kernel_rfl⟩,M ?_⟩
  refine aN<|M ?_
  refine⟨_,yR (dS (λ_=>true)<|o.w.ah.take k) p.ai.ag<|by omega,by kernel_rfl,M ?_⟩
  cases I:(dS (λ_=>true)<|o.w.ah.take k).contains p.ai.ag with
  |true =>
   conv=>whnf
   have e:=skip (by rw[I];simp);exact⟨k+1,j,by(show o.w.ah.length-(k+1)<o.w.ah.length-k;omega),aq.keep ⟨ae,ae,ae,ae,ae,⟨bj (k:=k)<|by omega,rfl⟩,trivial⟩ ⟨⟨congrArg (λr:List Bs=>some<|Blk.row 9 1<|r.map eQ) e.symm,rfl⟩,ae,ae,ae,ae,trivial⟩⟩
  |false =>
   conv=>whnf
   refine⟨by(show((dS (λ_=>true)<|o.w.ah.take k).map eQ).length+1<=_;rw[au];omega),by(show(((dS (λ_=>true)<|o.w.ah.take k).map eQ).length+1)*16<=_;rw[au];omega),M ?_⟩
   have e:(dS (λ_=>true)<|o.w.ah.take k).map eQ++[[.str p.ai.ag]]=(dS (λ_=>true)<|o.w.ah.take<|k+1).map eQ:=by
    rw[G];unfold mQ;rw[if_pos<|by rw[I];rfl,List.map_append];rfl
   exact⟨k+1,j,by(show o.w.ah.length-(k+1)<o.w.ah.length-k;omega),aq.keep ⟨ae,ae,ae,ae,ae,⟨bj (k:=k)<|by omega,rfl⟩,trivial⟩ ⟨⟨congrArg (λr=>some<|Blk.row 9 1 r) e,rfl⟩,ae,ae,ae,ae,trivial⟩⟩
 .obtain rfl:k=o.w.ah.length:=by simp at h1;omega
  exact iu (aq.vK [55]) rfl (by rw[List.take_length];rfl) rfl
def lv(m:List Int)(l:List al):List al:=(l.filter λp=>m.contains p.host).map λp=>⟨p.host,⟨p.ai.ag,[]⟩⟩
def Hs(m:List Int)(l:List al):(lv m l).length<=l.length:=by
 unfold lv;rw[au];exact List.length_filter_le ..
def Au(o:bB)(m:List Int):bB:=cR {cR o with aF:=lv m o.w.ah}
noncomputable def ko:Cx:={cx with chg:=ja [(63,10),(33,10),(61,9),(77,9),(78,9),(64,9),(72,9),(66,9),(70,9),(69,9),(65,9)],bld:=[83,118]}
def acr:bC ko:=bf
def aaf:ko.P.follows .mixedOrders=true:=mixed
def WT:Nat->List Nat:=fun|3=>[55555]|4=>[33333]|5=>[33333]|6=>[33333,55555]|9=>[33333]|10=>[33333]|11=>[33333]|13=>[33333]|14=>[55555]|15=>[33333,55555]|18=>[33333]|19=>[55555]|21=>[33333,55555]|23=>[33333,55555]|24=>[55555]|28=>[33333]|30=>[33333,55555]|_=>[]
noncomputable abbrev SE:Code:=(Tryz.f37).body.getD .skip
noncomputable abbrev aaY:List ResultVar:=(Tryz.f37).results.toList
def Qb(o:bB)(m:List Int)(W:o.w.ah.length<=1000)(hp:o.aF.length<=100000)(D:o.bu.length<=100)(K:∀a,(bz o.got a).length<=1000)(Y:∀p∈o.aF,p.ai.af.length<=100000)(X:∀p∈o.aF,kY o.w o.got p=false) :
 vcp ko [100007] pvW 148 WT (λ_=>ku (some<|Au o m)=none) ((iH 23 SE).getD .skip) (qi ko [100007] aaY<|ku<|some<|Au o m)
  ⟨[(0,.ptr 100034 0),(7,.ptr 100007 0)],pt m++bK o⟩:=by
 conv=>whnf
 refine⟨_,aq.refl _,M ?_⟩
 have H:=lift (cx' :=ko) (mJ o W hp (by omega) K Y X) rfl rfl;refine⟨[100007],_,H,⟨rfl,rfl,rfl⟩,M ?_⟩
 refine aN<|M ?_
 have Z:(cR o).bu.length<=101:=rr D;have hE:Au o m=cR {cR o with aF:=lv m o.w.ah}:=rfl;have J:(cR o).w=o.w:=rfl;have N:(cR o).aF=[]:=rfl;have G:∀a,(bz (cR o).got a).length<=1000:=K;refine⟨_,aq.keep (sl:=[(0,.ptr 100034 0),(7,.ptr 100007 0)]) (h:=pt m++bK (cR o)),?_⟩;rw[hE];generalize cR o=j at Z J N G ⊢;rw[<- J];rw[<- J]at W;conv=>whnf
 refine⟨Nat×List al,λq=>⟨[(0,.ptr 100034 0),(7,.ptr 100007 0),(128,.d<|.slice 3<|j.w.ah.map aP),(129,aj ((j.w.ah.map aP).length:Int)),(130,aj q.1)],pt m++bK {j with aF:=q.2}⟩,
  λq=>q.1<=j.w.ah.length/\q.2++lv m (j.w.ah.drop q.1)=lv m j.w.ah/\q.2.length<=q.1,λq=>j.w.ah.length-q.1,⟨(0,[]),⟨Nat.zero_le _,rfl,Nat.le_refl _⟩,aq.keep (by repeat' (first|exact trivial|refine⟨⟨rfl,rfl⟩,?_⟩)) ⟨⟨rfl,rfl⟩,⟨rfl,rfl⟩,⟨rfl,rfl⟩,⟨congrArg (λr:List al=>some<|Blk.row 72 3<|r.map aP) N,rfl⟩,⟨rfl,rfl⟩,trivial⟩⟩,?_⟩
 rintro⟨k,U⟩ ⟨hk,D,V⟩;dsimp only at hk D V;conv=>whnf
 refine aD ?_ ?_<;>intro h1
 .have I:k<j.w.ah.length:=by simp at h1;omega
  obtain⟨p,T⟩:∃p,j.w.ah[k]? =some p:=⟨_,ao I⟩
  have hd:lv m (j.w.ah.drop k)=(if m.contains p.host=true then[⟨p.host,⟨p.ai.ag,[]⟩⟩]else[])++lv m (j.w.ah.drop<|k+1):=by
   rw[drop_cons T];unfold lv;rw[List.filter_cons];split<;>rfl
  rw[hd, <- List.append_assoc]at D;refine⟨aB k,aP p,aL T,M ?_⟩
  refine⟨_,rJ p.host m,?_⟩;cases hc:m.contains p.host with
  |false =>
   rw[if_neg<|by rw[hc];decide,List.append_nil]at D;conv=>whnf
   exact⟨(k+1,U),⟨I,D,by dsimp only;omega⟩,by(show j.w.ah.length-(k+1)<j.w.ah.length-k;omega),aq.keep⟩
  |true =>
   rw[if_pos hc]at D;conv=>whnf
   have hP:=lift (cx' :=ko) (Lx {j with aF:=U} p.host p.ai.ag (by dsimp only;omega)) rfl rfl;refine⟨[20,100007],_,hP,⟨rfl,rfl,rfl⟩,M ?_⟩
   refine aN<|M ?_
   exact⟨(k+1,U++[⟨p.host,⟨p.ai.ag,[]⟩⟩]),⟨I,D,by simp;omega⟩,by(show j.w.ah.length-(k+1)<j.w.ah.length-k;omega),aq.keep⟩
 .obtain rfl:k=j.w.ah.length:=by simp at h1;omega
  rw[List.drop_length]at D;have D:U=lv m j.w.ah:=by rw[<- D];exact(List.append_nil _).symm
  have km:=Hs m j.w.ah;subst D;have H:=lift (cx' :=ko) (mJ {j with aF:=lv m j.w.ah} W (by dsimp only;omega) (by dsimp only;omega) G (λp hp=>by
   unfold lv at hp;obtain⟨q,_,rfl⟩:=List.mem_map.1 hp;simp) (λp hp=>by
   dsimp only at hp;unfold lv at hp;obtain⟨q,_,rfl⟩:=List.mem_map.1 hp;exact Jd)) rfl rfl
  refine⟨_,aq.keep (sl:=[(0,.ptr 100034 0)]) (h:=bK {j with aF:=lv m j.w.ah}),M ?_⟩
  refine⟨[],_,H,⟨rfl,rfl,rfl⟩,M ?_⟩
  refine aN<|M ?_
  exact .inl ⟨[],aq.keep,rfl⟩
def nU(o:bB)(x:bG)(D:Datum):List Bs->List al->Option (List al)
 |[],j=>some j
 | a :: t, j => if (wfR (cq o.w.ah a).1 x.name 1).2 = true then (match cY o.since o.aT (bN (cq o.w.ah a).1 x.name 1 o.aJ [D]) with
     |none=>none
     |some z=>nU o x D t<|j++cg z o.w.ah++cU z (bz o.got z.ag))else nU o x D t j
def PZ(o : bB)(x : bG)(j : Datum)(a : Bs)(t : List Bs)(D : List al) : nU o x j (a :: t) D = if (wfR (cq o.w.ah a).1 x.name 1).2 = true then (match cY o.since o.aT (bN (cq o.w.ah a).1 x.name 1 o.aJ [j]) with
      |none=>none
      |some z=>nU o x j t<|D++cg z o.w.ah++cU z (bz o.got z.ag))else nU o x j t D:=rfl
def yF(o:bB)(x:bG)(j:Datum)(m:List Int):Option bB:=match nU o x j (dS (λ_=>true) o.w.ah) []with
 |none=>none
 |some D=>some<|Au {o with aF:=D} m
def Qx{j:List al}{a s:Bs}{k:Int}(G:∀p∈j,aW p.ai=true)(h:(wfR (cq j a).1 s k).2=true):aW (cq j a).1=true:=by
 rcases lj j a with ⟨p,hp,D,_⟩|⟨D,_⟩
 .rw[D];exact G p hp
 .rw[D]at h;cases h
def Qa(o:bB)(x:bG)(G:Datum)(m:List Int)(hv:∀p∈o.w.ah,aW p.ai=true)(hn:o.w.ah.length<=20)(hp:o.aF=[])(hs:o.bu.length<=100)(N:∀a,(bz o.got a).length<=20) :
 vcp ko [100007] pvW 148 WT (λ_=>ku (yF o x G m)=none) ((iH 15 SE).getD .skip) (qi ko [100007] aaY<|ku<|yF o x G m)
  ⟨[(0,.ptr 100034 0),(3,.ptr 3 0),(7,.ptr 100007 0),(12,.d<|.slice 3 [aS G])],(3,.box<|(bw x).map .d)::pt m++bK o⟩:=by
 conv=>whnf
 refine⟨_,aq.refl _,M ?_⟩
 obtain⟨r,I⟩:∃r,r=yF o x G m:=⟨_,rfl⟩
 rw[<- I];have hX:=lift (cx' :=ko) (Ni o<|by omega) rfl rfl;have hR:=qH (λ_=>true) o.w.ah;have I:r=match nU o x G (dS (λ_=>true) o.w.ah) []with|none=>none|some J=>some<|Au {o with aF:=J} m:=I
 generalize dS (λ_=>true) o.w.ah=l at hX hR I
 refine⟨[3,100007],_,hX,⟨by kernel_rfl,by kernel_rfl,by kernel_rfl⟩,M ?_⟩
 refine aN<|M ?_
 refine⟨Nat×List al,λq=>⟨[(0,.ptr 100034 0),(3,.ptr 3 0),(7,.ptr 100007 0),(12,.d<|.slice 3 [aS G]),(85,.d<|.slice 1<|l.map eQ),(86,aj ((l.map eQ).length:Int)),(87,aj q.1)],(3,.box<|(bw x).map .d)::pt m++bK {o with aF:=q.2}⟩,
  λq=>q.1<=l.length/\nU o x G (l.drop q.1) q.2=nU o x G l []/\q.2.length<=40*q.1/\ ∀p∈q.2,kY o.w o.got p=false/\p.ai.af.length<=20000,λq=>l.length-q.1,⟨(0,[]),⟨Nat.zero_le _,rfl,Nat.le_refl _,λp h=>by cases h⟩,aq.keep (by repeat' (first|exact trivial|refine⟨⟨rfl,rfl⟩,?_⟩)) ⟨⟨rfl,rfl⟩,⟨rfl,rfl⟩,⟨rfl,rfl⟩,⟨rfl,rfl⟩,⟨congrArg (λr:List al=>some<|Blk.row 72 3<|r.map aP) hp,rfl⟩,⟨rfl,rfl⟩,trivial⟩⟩,?_⟩
 rintro⟨k,J⟩ ⟨hk,j,hM,H⟩;dsimp only at hk j hM H;conv=>whnf
 refine aD ?_ ?_<;>intro h1
 .have T:k<l.length:=by simp at h1;omega
  obtain⟨a,V⟩:∃a,l[k]? =some a:=⟨_,ao T⟩
  rw[drop_cons V]at j;rw[PZ]at j;refine⟨aB k,eQ a,aL V,M ?_⟩
  have X:=bZ (pv' :=pvW)<|lift (cx' :=ko) (kC o.w a hv<|by omega) rfl rfl;have K:=Gy hv a;have D:=Qx (a:=a) (s:=x.name) (k:=1) hv;generalize cq o.w.ah a=c at X K D j;obtain⟨c,cb⟩:=c;dsimp only at X K D j;refine⟨[3,100007,100034,90032,90040,90041],_,X,⟨by kernel_rfl,by kernel_rfl,by kernel_rfl⟩,M ?_⟩
  refine aN<|M ?_
  refine⟨_,aq.keep (sl:=[(0,.ptr 100034 0),(3,.ptr 3 0),(7,.ptr 100007 0),(12,.d<|.slice 3 [aS G]),(15,.ptr 15 0),(85,.d<|.slice 1<|l.map eQ),(86,aj ((l.map eQ).length:Int)),(87,aj k)]) (h:=(3,.box<|(bw x).map .d)::(15,.box<|(aV c).map .d)::pt m++bK {o with aF:=J}),M ?_⟩
  have Y:=pC c x.name 1 K;generalize wfR c x.name 1=s1 at Y D j;obtain⟨s1,b1⟩:=s1;dsimp only at Y D j
  (refine⟨_,_,Y,M ?_⟩)
  cases b1 with
  |false =>
   rw[if_neg<|by decide]at j;conv=>whnf
   exact⟨(k+1,J),⟨T,j,by dsimp only;omega,H⟩,by(show l.length-(k+1)<l.length-k;omega),aq.keep⟩
  |true =>
   rw[if_pos rfl]at j;have D:=D rfl;conv=>whnf
   refine⟨_,aq.keep (sl:=[(0,.ptr 100034 0),(3,.ptr 3 0),(7,.ptr 100007 0),(12,.d<|.slice 3 [aS G]),(15,.ptr 15 0),(85,.d<|.slice 1<|l.map eQ),(86,aj ((l.map eQ).length:Int)),(87,aj k)]) (h:=(3,.box<|(bw x).map .d)::(15,.box<|(aV c).map .d)::pt m++bK {o with aF:=J}),M ?_⟩
   clear X Y;have hB:=bZ (pv' :=pvW)<|lift (cx' :=ko) (fu x.name 1 o.aJ [G]) rfl rfl;have U:=lift (cx' :=ko) (vh {o with aF:=J} c x.name 1 o.aJ [G] D (by simp) (λh=>kH (jd (oa D)<|by simp) h)) rfl rfl
   change FnP _ _ _ _ _ (px _<|cY o.since o.aT<|bN c x.name 1 o.aJ [G])at U
   cases hq:cY o.since o.aT (bN c x.name 1 o.aJ [G])with
   |none =>
    rw[hq]at U j;have I:r=none:=by rw[I, <- j]
    subst I
    (refine cn<|M ?_)
    refine⟨[3,15,100007,100034,90032,90040,90041],_,hB,⟨rfl,rfl,rfl⟩,M ?_⟩
    refine aN ?_
    (conv=>arg 2;arg 1;reduce)
    conv=>whnf
    repeat (refine db<|M ?_)
    exact⟨[3,15,100007],_,U,⟨by kernel_rfl,by kernel_rfl,by kernel_rfl⟩,rfl⟩
   |some z =>
   rw[hq]at U j;dsimp only at j;have W:=dP<|eT hq;have Z:=lift (cx' :=ko) (mn {o with aF:=J} z W (by dsimp only;omega) (by dsimp only;omega) (by dsimp only;have:=N z.ag;omega)) rfl rfl
   (refine cn<|M ?_)
   refine⟨[3,15,100007,100034,90032,90040,90041],_,hB,⟨rfl,rfl,rfl⟩,M ?_⟩
   refine aN ?_
   (conv=>arg 2;arg 1;reduce)
   conv=>whnf
   repeat (refine db<|M ?_)
   refine⟨[3,15,100007],_,U,⟨by kernel_rfl,by kernel_rfl,by kernel_rfl⟩,M ?_⟩
   refine aN ?_
   (conv=>arg 2;arg 1;reduce)
   conv=>whnf
   repeat (refine db<|M ?_)
   refine⟨[3,15,100007],_,Z,⟨by kernel_rfl,by kernel_rfl,by kernel_rfl⟩,M ?_⟩
   refine aN ?_
   (conv=>arg 2;arg 1;reduce)
   conv=>whnf
   have km:=Gd z o.w.ah;have hJ:=N z.ag;exact⟨(k+1,J++cg z o.w.ah++cU z (bz o.got z.ag)),⟨T,j,by simp[cU];omega,λp hp=>by
    rw[List.append_assoc]at hp;rcases List.mem_append.1 hp with hp|hp
    .exact H p hp
    .refine⟨wV p hp,?_⟩;have e:p.ai=z:=by
      rcases List.mem_append.1 hp with h|h
      .unfold cg at h;obtain⟨q,_,rfl⟩:=List.mem_map.1 h;rfl
      .unfold cU at h;obtain⟨q,_,rfl⟩:=List.mem_map.1 h;rfl
     rw[e];exact W.1⟩,by(show l.length-(k+1)<l.length-k;omega),aq.keep⟩
 .obtain rfl:k=l.length:=by simp at h1;omega
  rw[List.drop_length]at j;have j:some J=nU o x G l []:=j;rw[<- j]at I;have hT:=Qb {o with aF:=J} m (by dsimp only;omega) (by dsimp only;omega) hs (λa=>by have:=N a;dsimp only;omega) (λp hp=>by have:=(H p hp).2;omega) (λp hp=>(H p hp).1);replace I:r=some (Au {o with aF:=J} m):=I;rw[<- I]at hT;conv at hT=>whnf
  exact gW hT<|aq.keep
def OH(f:al->Bool):∀(G:List al) (l:List Bs),l.Nodup->(G.foldl (mQ f) l).Nodup/\ ∀a∈G.foldl (mQ f) l,a∈l\/ ∃p∈G,p.ai.ag=a
 |[],l,h=>⟨h,λa j=> .inl j⟩
 |p::t,l,h=>by
  have J:(mQ f l p).Nodup:=by
   unfold mQ;split
   .rename_i D;simp only[aK,Bool.not_eq_true']at D;rw[List.nodup_append];refine⟨h,by simp,λa j b K e=>?_⟩;rcases List.mem_singleton.1 K with rfl;rw[e]at j;rw[iJ.2 j]at D;cases D.2
   .exact h
  obtain⟨H,I⟩:=OH f t (mQ f l p) J;refine⟨H,λa j=>?_⟩;rcases I a j with h3|⟨q,hq,e⟩
  .unfold mQ at h3;split at h3
   .rcases List.mem_append.1 h3 with h3|h3
    .exact .inl h3
    .rcases List.mem_singleton.1 h3 with rfl;exact .inr ⟨p,List.mem_cons_self .., rfl⟩
   .exact .inl h3
  .exact .inr ⟨q,aZ _ hq,e⟩
def Kq(w:aQ):∀(l:List al) (g:List<|Bs×List Int) (a:Bs),bH a (dA w g l)≠none->bH a g≠none\/ ∃q∈l,q.ai.ag=a
 |[],g,a,h=> .inl h
 |p::t,g,a,h=>by
  rcases Kq w t (jT w g p) a h with h|⟨q,hq,e⟩
  .unfold jT at h;split at h
   .rw[uv]at h;split at h
    .rename_i e;exact .inr ⟨p,List.mem_cons_self .., e.symm⟩
    .exact .inl h
   .exact .inl h
  .exact .inr ⟨q,aZ _ hq,e⟩
def gn(o:bB)(host:Int)(l:List Bs):List al:=(l.filter λa=> !o.w.ah.any (ff host a)).map λa=>⟨host,(cq o.w.ah a).1⟩
def Ko(o:bB)(host:Int)(l:List Bs):(gn o host l).length<=l.length:=by
 unfold gn;rw[au];exact List.length_filter_le ..
def JJ{D:List al}(G:∀p∈D,aW p.ai=true)(a:Bs):ZSm (cq D a).1:=by
 rcases lj D a with ⟨p,hp,j,_⟩|⟨j,_⟩
 .rw[j];exact dP<|G p hp
 .rw[j];exact⟨by simp[jZ],by simp[jZ]⟩
def TK(o:bB)(host:Int)(l:List Bs)(h:∀a∈l,∃p∈o.w.ah,p.ai.ag=a):(gn o host l).map (λp=>p.ai.ag)=l.filter λa=> !o.w.ah.any (ff host a):=by
 unfold gn;rw[List.map_map];conv=>rhs;rw[<- List.map_id<|l.filter _]
 refine List.map_congr_left λa j=>?_
 have j:=(List.mem_filter.1 j).1;show(cq o.w.ah a).1.ag=a
 rcases lj o.w.ah a with ⟨p,hp,D,e⟩|⟨_,D⟩
 .rw[D];exact e
 .obtain⟨p,hp,e⟩:=h a j;exact absurd e<|D p hp
def ZO(o:bB)(host:Int)(f:al->Bool)(k:Nat)(p:al)(W:(gn o host<|dS f o.w.ah)[k]? =some p):bH p.ai.ag (dA o.w []<|(gn o host<|dS f o.w.ah).take k)=none:=by
 cases U:bH p.ai.ag (dA o.w []<|(gn o host<|dS f o.w.ah).take k)with
 |none=>rfl
 |some v =>
  exfalso
  obtain⟨J,K⟩:=OH f o.w.ah [] List.nodup_nil;have G:=TK o host (dS f o.w.ah) (λa T=>by
   rcases K a T with h|h
   .cases h
   .exact h)
  have I:((gn o host<|dS f o.w.ah).map λp=>p.ai.ag).Nodup:=by rw[G];exact List.Pairwise.filter _ J
  rcases Kq o.w _ [] p.ai.ag (by rw[U];simp)with h|⟨q,hq,e⟩
  .exact h rfl
  .obtain⟨j,D⟩:=cO hq;rw[List.getElem?_take]at D;split at D
   .rename_i V;have h1:((gn o host<|dS f o.w.ah).map λp=>p.ai.ag)[j]? =some p.ai.ag:=by rw[bc,D];simp[e]
    have N:((gn o host<|dS f o.w.ah).map λp=>p.ai.ag)[k]? =some p.ai.ag:=by rw[bc,W];rfl
    have H:j<((gn o host<|dS f o.w.ah).map λp=>p.ai.ag).length:=(aA.1 h1).1;have:=(List.getElem?_inj H I).1<|h1.trans N.symm;omega
   .cases D
def Je(o:bB)(x:bG)(host:Int)(m:List Int):Option bB:=yF (fp {o with aF:=gn o host<|dS (λp=>m.contains p.host) o.w.ah}) x ⟨[],addrAt o.w host,0⟩ m
def wW(o:bB)(x:bG)(host:Int):Option bB:=if (wfR o.ai x.name 1).2=true then Je o x host (qS (wfR o.ai x.name 1).1.data host 0 o.w.ar)else none
def VE(o:bB)(x:bG)(host:Int)(hx:x.ar=[host])(hw:cr o.w host=true)(Y:∀p∈o.w.ah,aW p.ai=true)(hn:o.w.ah.length<=20)(xm:o.w.ar.length<=1000)(hL:o.aF=[])(kl:o.bu.length<=50)(T:o.got=[])(hz:aW o.ai=true) :
 FnP ko pvW 37 [.ptr 100034 0,.agg<|(bw x).map .d] (bK o) (ku<|wW o x host):=by
 refine bq [100007] WT acr aaf Tryz.func37 ?_;conv=>whnf
 obtain⟨r,D⟩:∃r,r=wW o x host:=⟨_,rfl⟩
 rw[<- D];have V:(x.ar.map dq)[(0:Int).toNat]? =some (dq host):=by rw[hx];rfl
 refine⟨Int.le_refl 0,dq host,V,M ?_⟩
 have J:=pC o.ai x.name 1 (by have:=(dP hz).1;omega);have G:=vH (s:=x.name) (k:=1) hz;unfold wW at D;generalize wfR o.ai x.name 1=s at J D G;obtain⟨s,b⟩:=s;dsimp only at J D G
 (refine bJ<|M ?_)
 (refine⟨_,_,J,M ?_⟩)
 refine⟨_,aq.keep (sl:=[(0,.ptr 100034 0),(3,.ptr 3 0),(4,aj host),(5,.ptr 5 0),(6,.d<|.bool b)]) (h:=(3,.box<|(bw x).map .d)::(5,.box<|(bV s).map .d)::bK o),M ?_⟩
 clear J;cases b with
 |false =>
  rw[if_neg<|by decide]at D;subst D;conv=>whnf
  have J:=lift (cx' :=ko) (ma 4<|by decide) rfl rfl;exact⟨[3,5,100034,90032,90040,90041],_,J,⟨rfl,rfl,rfl⟩,rfl⟩
 |true =>
 rw[if_pos rfl]at D;have G:=G rfl;conv=>whnf
 have hO:=lift (cx' :=ko) (KR o s.data host (by omega)<|by omega) rfl rfl;generalize qS s.data host 0 o.w.ar=m at hO D;refine⟨[3,5],_,hO,⟨by kernel_rfl,by kernel_rfl,by kernel_rfl⟩,M ?_⟩
 refine aN<|M ?_
 refine⟨_,aq.trans (aq.name 7 100007 rfl rfl)<|aq.keep (sl:=[(0,.ptr 100034 0),(3,.ptr 3 0),(4,aj host),(7,.ptr 100007 0)]) (h:=(3,.box<|(bw x).map .d)::pt m++bK o),M ?_⟩
 have hX:=lift (cx' :=ko) (Nh o m<|by omega) rfl rfl;have hR:=qH (λp=>m.contains p.host) o.w.ah;have W:=ZO o host λp=>m.contains p.host;unfold Je at D;generalize dS (λp=>m.contains p.host) o.w.ah=l at hX hR D W;refine⟨[3],_,hX,⟨by kernel_rfl,by kernel_rfl,by kernel_rfl⟩,M ?_⟩
 refine aN<|M ?_
 refine⟨Nat×List al,λq=>⟨[(0,.ptr 100034 0),(3,.ptr 3 0),(4,aj host),(7,.ptr 100007 0),(45,.d<|.slice 1<|l.map eQ),(46,aj ((l.map eQ).length:Int)),(47,aj q.1)],(3,.box<|(bw x).map .d)::pt m++bK {o with aF:=q.2}⟩,
  λq=>q.1<=l.length/\q.2++gn o host (l.drop q.1)=gn o host l/\q.2.length<=q.1,λq=>l.length-q.1,⟨(0,[]),⟨Nat.zero_le _,rfl,Nat.le_refl _⟩,aq.keep (by repeat' (first|exact trivial|refine⟨⟨rfl,rfl⟩,?_⟩)) ⟨⟨rfl,rfl⟩,⟨rfl,rfl⟩,⟨rfl,rfl⟩,⟨rfl,rfl⟩,⟨congrArg (λr:List al=>some<|Blk.row 72 3<|r.map aP) hL,rfl⟩,⟨rfl,rfl⟩,trivial⟩⟩,?_⟩
 rintro⟨k,Z⟩ ⟨hk,j,hM⟩;dsimp only at hk j hM;conv=>whnf
 refine aD ?_ ?_<;>intro h1
 .have I:k<l.length:=by simp at h1;omega
  obtain⟨a,N⟩:∃a,l[k]? =some a:=⟨_,ao I⟩
  have hd:gn o host (l.drop k)=(if (!o.w.ah.any (ff host a))=true then[⟨host,(cq o.w.ah a).1⟩]else[])++gn o host (l.drop<|k+1):=by
   rw[drop_cons N];unfold gn;rw[List.filter_cons];split<;>rfl
  rw[hd, <- List.append_assoc]at j;refine⟨aB k,eQ a,aL N,M ?_⟩
  have hC:=bZ (pv' :=pvW)<|lift (cx' :=ko) (mK o.w host a<|by omega) rfl rfl;generalize o.w.ah.any (ff host a)=c at hC j;refine⟨[3,100007,100034,90032,90040,90041],_,hC,⟨by kernel_rfl,by kernel_rfl,by kernel_rfl⟩,M ?_⟩
  refine aN ?_
  (conv=>arg 2;arg 1;reduce)
  conv=>whnf
  cases c with
  |true =>
   rw[if_neg<|by decide,List.append_nil]at j;conv=>whnf
   exact⟨(k+1,Z),⟨I,j,by dsimp only;omega⟩,by(show l.length-(k+1)<l.length-k;omega),aq.keep⟩
  |false =>
   rw[if_pos<|by decide]at j;conv=>whnf
   have hY:=bZ (pv' :=pvW)<|lift (cx' :=ko) (kC o.w a Y<|by omega) rfl rfl;have H:=JJ Y a;generalize cq o.w.ah a=c at hY H j;obtain⟨c,cb⟩:=c;dsimp only at hY H j;refine⟨[3,100007,100034,90032,90040,90041],_,hY,⟨by kernel_rfl,by kernel_rfl,by kernel_rfl⟩,M ?_⟩
   refine aN ?_
   (conv=>arg 2;arg 1;reduce)
   conv=>whnf
   have hP:=lift (cx' :=ko) (tA {o with aF:=Z} host c H (by dsimp only;omega)) rfl rfl;refine⟨[3,10,100007],_,hP,⟨by kernel_rfl,by kernel_rfl,by kernel_rfl⟩,M ?_⟩
   refine aN ?_
   (conv=>arg 2;arg 1;reduce)
   conv=>whnf
   exact⟨(k+1,Z++[⟨host,c⟩]),⟨I,j,by simp;omega⟩,by(show l.length-(k+1)<l.length-k;omega),aq.keep⟩
 .obtain rfl:k=l.length:=by simp at h1;omega
  rw[List.drop_length]at j;have j:Z=gn o host l:=by rw[<- j];exact(List.append_nil _).symm
  have kc:=Ko o host l;subst j;have xc:∀p∈gn o host l,p.ai.af.length<=100000:=λp hp=>by
   unfold gn at hp;obtain⟨a,_,rfl⟩:=List.mem_map.1 hp;have:=(JJ Y a).1;dsimp only;omega
  have U:∀a,bz o.got a=[]:=λa=>by rw[T];rfl
  have K:=lift (cx' :=ko) (Dy {o with aF:=gn o host l} (by dsimp only;omega) (by dsimp only;omega) (by dsimp only;omega) (λk p _=>by
   have:=lT o.w ((gn o host l).take k) o.got p.ai.ag;rw[U]at this;have h2:((gn o host l).take k).length<=(gn o host l).length:=by rw[List.length_take];omega
   simp only[List.length_nil]at this;show(bz (dA o.w o.got<|(gn o host l).take k) p.ai.ag).length<=100000
   omega) xc (λk p hk _=>by
   show bH p.ai.ag (dA o.w o.got<|(gn o host l).take k)=none
   rw[T];exact W k p hk)) rfl rfl
  rw[Dv]at K;refine⟨[3,100007],_,K,⟨by kernel_rfl,by kernel_rfl,by kernel_rfl⟩,M ?_⟩
  refine aN<|M ?_
  refine⟨_,aq.keep (sl:=[(0,.ptr 100034 0),(3,.ptr 3 0),(4,aj host),(7,.ptr 100007 0)]) (h:=(3,.box<|(bw x).map .d)::pt m++bK (fp {o with aF:=gn o host l})),M ?_⟩
  unfold cr at hw;simp only[aK,decide_eq_true_eq]at hw;obtain⟨h,X⟩:∃h,o.w.ar[host.toNat]? =some h:=⟨_,ao<|by omega⟩
  have e2:addrAt o.w host=h.addr:=by unfold addrAt;rw[X]
  rw[e2]at D;refine⟨hw.1,gG h,aL X,M ?_⟩
  have hT:=Qa (fp {o with aF:=gn o host l}) x ⟨[],h.addr,0⟩ m Y hn rfl (by
   show(o.bu++_).length<=100
   rw[List.length_append];split<;>simp<;>omega) (λa=>by
   have:=lT o.w (gn o host l) o.got a;rw[U]at this;simp only[List.length_nil]at this;show(bz (dA o.w o.got<|gn o host l) a).length<=20
   omega)
  rw[<- D]at hT;conv at hT=>whnf
  exact gW hT<|aq.keep
def yb(w:aQ)(ag:Bs)(ar:List Int):Bool:=w.ah.all (λp=> !((p.ai.ag==ag)&& !ar.contains p.host))&& !ar.any (λn=> !w.ah.any (ff n ag))
def uh(w:aQ)(x:bG):Bool:= !((!(cq w.ah x.ai).2|| !(dQ w.ah x.ai).2)|| !yb w x.ai x.ar)&&(oo (cq w.ah x.ai).1 x.ai 2 (cZ w x.ar)&&oo (dQ w.ah x.ai).1 x.ai 2 (cZ w x.ar))
def wC(w:aQ)(x:bG):Bool:= !(!(cq w.ah x.ai).2|| !(dQ w.ah x.ai).2)&&(w.ah.all (λp=> !((p.ai.ag==x.ai)&& !oo p.ai x.ai 7 [⟨[],x.key.n,x.key.alg⟩]))&&oo (dQ w.ah x.ai).1 x.ai 6 [⟨[],x.key.n,x.key.alg⟩])
def SmJ(z:ax):Prop:=z.af.length<=100000/\ ∀s k,(wfR z s k).1.data.length<=200000
noncomputable def nn:Cx:={cx with chg:=ja [(63,10),(33,10),(62,10),(67,10),(88,10),(42,10),(43,10),(139,9),(155,9),(97,9),(73,9)]}
def Ad:bC nn:=bf
def pN:nn.P.follows .mixedOrders=true:=mixed
def xE{cx cx' :Cx}{pv:Int->Value}{f:FuncId}{args:List AV}{h:List<|Nat×Blk}{out:Option<|AV×List (Nat×Blk)}(D:FnP cx pv f args h out)(h1:cx'.P=cx.P)(j:cx'.gl=cx.gl):FnP cx' pv f args h out:=bX h1 j D
def Ir(w:aQ)(n:Int)(ag:Bs)(D:w.ah.length<=100000):FnP nn pv0 139 [aj n,.ptr 100003 0,.d<|.ptr [.str ag]] [(100003,.box<|iG w)]<|some (.d<|.bool (!w.ah.any (ff n ag)),[(100003,.box<|iG w)]):=by
 refine bq [] (fun|1=>[33333]|_=>[]) Ad pN Tryz.func139 ?_;conv=>whnf
 have j:=xE (cx' :=nn) (mK w n ag D) rfl rfl;refine⟨[100003],_,j,⟨rfl,rfl,rfl⟩,M ?_⟩
 refine aN<|M ?_
 exact ck rfl rfl rfl
def Xb(w:aQ)(ag:Bs)(l:List Int)(W:w.ah.length<=100000)(Y:l.length<=1000):FnP nn pv0 155 [.d<|.slice 1<|l.map dq,.fn 139 [] [.ptr 100003 0,.d<|.ptr [.str ag]]] [(100003,.box<|iG w)]
 (some (aj (match l.findIdx? (λn=> !w.ah.any (ff n ag))with|some k=>(k:Int)|none=> -1),[(100003,.box<|iG w)])):=by
 refine bq [] (fun|4=>[33333]|_=>[]) Ad pN Tryz.func155 ?_;conv=>whnf
 refine⟨Nat,λk=>⟨[(0,.d<|.slice 1<|l.map dq),(1,.fn 139 [] [.ptr 100003 0,.d<|.ptr [.str ag]]),(7,aj ((l.map dq).length:Int)),(8,aj k)],[(100003,.box<|iG w)]⟩,λk=>k<=l.length/\ ∀j y,j<k->l[j]? =some y->(!w.ah.any (ff y ag))=false,λk=>l.length-k,
  ⟨0,⟨by omega,λj y h=>by omega⟩,aq.keep⟩,λk T=>?_⟩
 obtain⟨T,D⟩:=T;conv=>whnf
 refine aD ?_ ?_<;>intro h1
 .have H:k<l.length:=by simp at h1;omega
  obtain⟨s,I⟩:∃s,l[k]? =some s:=⟨_,ao H⟩
  refine⟨aB k,dq s,aL I,M ?_⟩
  refine⟨[],_,Ir w s ag W,⟨rfl,rfl,rfl⟩,M ?_⟩
  refine aN<|M ?_
  refine aD ?_ ?_<;>intro K
  .have:l.findIdx? (λn=> !w.ah.any (ff n ag))=some k:=by
    rw[List.findIdx?_eq_some_iff_getElem];obtain⟨U,V⟩:=aA.1 I;refine⟨U,by rw[V];exact K,λj G=>?_⟩;have:=D j (l[j]) G (ao<|by omega);rw[this];decide
   rw[this];exact ck rfl rfl rfl
  .refine⟨k+1,⟨H,λj y G J=>?_⟩,by(show l.length-(k+1)<l.length-k;omega),aq.keep⟩;rcases Nat.lt_succ_iff_lt_or_eq.1 G with G|rfl
   .exact D j y G J
   .rw[I]at J;cases J;exact K
 .obtain rfl:k=l.length:=by simp at h1;omega
  have:l.findIdx? (λn=> !w.ah.any (ff n ag))=none:=by
   rw[List.findIdx?_eq_none_iff];intro x X;obtain⟨i,N⟩:=cO X;exact D i x (aA.1 N).1 N
  rw[this];exact ck rfl rfl rfl
def VK(w:aQ)(ag:Bs)(l:List Int)(I:w.ah.length<=100000)(H:l.length<=1000):FnP nn pv0 97 [.d<|.slice 1<|l.map dq,.fn 139 [] [.ptr 100003 0,.d<|.ptr [.str ag]]] [(100003,.box<|iG w)]
 (some (.d<|.bool (l.any λn=> !w.ah.any (ff n ag)),[(100003,.box<|iG w)])):=by
 refine bq [] (fun|1=>[33333]|_=>[]) Ad pN Tryz.func97 ?_;have j:∀i:Option Nat,i=l.findIdx? (λn=> !w.ah.any (ff n ag))->decide ((match i with|some k=>(k:Int)|none=> -1)>=0)=l.any λn=> !w.ah.any (ff n ag):=by
  rintro i rfl;cases D:l.findIdx? (λn=> !w.ah.any (ff n ag))with
  |none =>
   have:=List.findIdx?_eq_none_iff.1 D
   symm
   rw[show decide ((-1:Int)>=0)=false from rfl,List.any_eq_false];intro x J;rw[this x J];decide
  |some k =>
   obtain⟨G,hp,_⟩:=List.findIdx?_eq_some_iff_getElem.1 D
   symm
   rw[show decide ((k:Int)>=0)=true by simp,List.any_eq_true];exact⟨_,List.getElem_mem G,hp⟩
 conv=>whnf
 refine⟨[],_,Xb w ag l I H,⟨rfl,rfl,rfl⟩,M ?_⟩
 refine aN ?_;have j:=j _ rfl;generalize l.findIdx? (λn=> !w.ah.any (ff n ag))=i at j ⊢;conv=>whnf
 exact ck rfl (by rw[<- j];rfl) rfl
def Lm(w:aQ)(ag:Bs)(l:List Int)(N:w.ah.length<=1000)(I:l.length<=1000):FnP nn pv0 88 [.agg<|iG w,.d<|.str ag,.d<|.slice 1<|l.map dq] []<|some (.d<|.bool<|yb w ag l,[]):=by
 refine bq [100003] (fun|0=>[33333]|7=>[33333,55555]|_=>[]) Ad pN Tryz.func88 ?_;conv=>whnf
 refine⟨Nat,λk=>⟨[(2,.d<|.slice 1<|l.map dq),(3,.ptr 3 0),(4,.ptr 4 0),(11,.d<|.slice 3<|w.ah.map aP),(12,aj ((w.ah.map aP).length:Int)),(13,aj k)],[(3,.box<|iG w),(4,.box [.d<|.str ag])]⟩,λk=>k<=w.ah.length/\(w.ah.take k).all (λp=> !((p.ai.ag==ag)&& !l.contains p.host))=true,λk=>w.ah.length-k,
  ⟨0,⟨Nat.zero_le _,rfl⟩,aq.keep⟩,?_⟩
 rintro k ⟨K,j⟩;conv=>whnf
 refine aD ?_ ?_<;>intro h1
 .have H:k<w.ah.length:=by simp at h1;omega
  obtain⟨p,hp⟩:∃p,w.ah[k]? =some p:=⟨_,ao H⟩
  refine⟨aB k,aP p,aL hp,M ?_⟩
  have D:(w.ah.take<|k+1).all (λp=> !((p.ai.ag==ag)&& !l.contains p.host))= !((p.ai.ag==ag)&& !l.contains p.host):=by
   rw[cj hp,List.all_append,j];simp
  have G:(!((p.ai.ag==ag)&& !l.contains p.host))=false->yb w ag l=false:=λh=>by
   unfold yb;have:w.ah.all (λp=> !((p.ai.ag==ag)&& !l.contains p.host))=false:=by
    rw[List.all_eq_false];exact⟨p,aw hp,by rw[h];decide⟩
   rw[this];rfl
  repeat' (first|(refine⟨_,_,lh l p.host<|by omega,M ?_⟩)|(refine aD ?_ ?_<;>intro h)|fail)
  all_goals first
   |exact ck rfl (by rw[G<|by simp only[*, if_true,if_false,aX]];rfl) rfl
   |exact⟨k+1,⟨H,by rw[D];simp only[*, if_true,if_false,aX]⟩,by(show w.ah.length-(k+1)<w.ah.length-k;omega),aq.keep⟩
 .obtain rfl:k=w.ah.length:=by simp at h1;omega
  rw[List.take_length]at j;have J:yb w ag l= !(l.any λn=> !w.ah.any (ff n ag)):=by unfold yb;rw[j];rfl
  rw[J];refine⟨_,aq.trans (aq.vK [4])<|aq.trans (aq.name 3 100003 rfl rfl)<|aq.keep (sl:=[(2,.d<|.slice 1<|l.map dq),(3,.ptr 100003 0),(4,.d<|.ptr [.str ag])]) (h:=[(100003,.box<|iG w)]),M ?_⟩
  refine⟨[],_,VK w ag l (by omega) I,⟨rfl,rfl,rfl⟩,M ?_⟩
  refine aN<|M ?_
  exact jW rfl rfl rfl
def Us(w:aQ)(x:bG)(W:∀p∈w.ah,aW p.ai=true)(hn:w.ah.length<=1000)(V:x.ar.length<=1000)(Z:∀n∈x.ar,cr w n=true)(h1:SmJ (cq w.ah x.ai).1)(G:SmJ (dQ w.ah x.ai).1):FnP nn pv0 42 [.agg<|iG w,.agg<|(bw x).map .d] []<|some (.d<|.bool<|uh w x,[]):=by
 refine bq [] (fun|0=>[33333]|1=>[33333]|2=>[33333]|3=>[33333,55555]|5=>[33333,55555]|6=>[55555]|_=>[]) Ad pN Tryz.func42 ?_;conv=>whnf
 have J:=xE (cx' :=nn) (kC w x.ai W<|by omega) rfl rfl;have I:=xE (cx' :=nn) (uE w x.ai W<|by omega) rfl rfl;have U:=xE (cx' :=nn) (vT w x.ar V Z) rfl rfl;have T:=Lm w x.ai x.ar hn V;have j:∃r,r=uh w x:=⟨_,rfl⟩
 obtain⟨r,j⟩:=j;rw[<- j];unfold uh at j;generalize cq w.ah x.ai=c at J j h1;generalize dQ w.ah x.ai=D at I j G;generalize cZ w x.ar=H at U j;generalize yb w x.ai x.ar=sb at T j;obtain⟨c,N⟩:=c;obtain⟨D,K⟩:=D;dsimp only at J I j h1 G;have X:=uU c x.ai 2 H h1.1<|h1.2 _ _;have Y:=uU D x.ai 2 H G.1<|G.2 _ _;refine⟨[2,3],_,J,⟨rfl,rfl,rfl⟩,M ?_⟩
 refine aN<|M ?_
 refine⟨[2,3,5],_,I,⟨rfl,rfl,rfl⟩,M ?_⟩
 refine aN<|M ?_
 refine⟨_,aq.keep (sl:=[(2,.ptr 2 0),(3,.ptr 3 0),(5,.ptr 5 0),(6,.d<|.bool N),(7,.ptr 7 0),(8,.d<|.bool K)]) (h:=[(2,.box<|iG w),(3,.box<|(bw x).map .d),(5,.box<|(aV c).map .d),(7,.box<|(aV D).map .d)]),M ?_⟩
 cases N with
 |false =>
  conv=>whnf
  exact ck rfl (by rw[j];rfl) rfl trivial
 |true =>
 conv=>whnf
 cases K with
 |false =>
  conv=>whnf
  exact ck rfl (by rw[j];rfl) rfl trivial
 |true =>
 conv=>whnf
 refine⟨[2,3,5,7],_,T,⟨rfl,rfl,rfl⟩,M ?_⟩
 refine aN<|M ?_
 cases sb with
 |false =>
  conv=>whnf
  exact ck rfl (by rw[j];rfl) rfl trivial
 |true =>
 conv=>whnf
 refine⟨_,aq.keep (sl:=[(2,.ptr 2 0),(3,.ptr 3 0),(5,.ptr 5 0),(7,.ptr 7 0)]) (h:=[(2,.box<|iG w),(3,.box<|(bw x).map .d),(5,.box<|(aV c).map .d),(7,.box<|(aV D).map .d)]),M ?_⟩
 refine⟨[2,3,5,7],_,U,⟨rfl,rfl,rfl⟩,M ?_⟩
 refine aN<|M ?_
 refine⟨_,aq.keep (sl:=[(3,.ptr 3 0),(5,.ptr 5 0),(7,.ptr 7 0),(9,.d<|.slice 3<|H.map aS)]) (h:=[(3,.box<|(bw x).map .d),(5,.box<|(aV c).map .d),(7,.box<|(aV D).map .d)]),M ?_⟩
 (refine⟨_,_,X,M ?_⟩)
 generalize oo c x.ai 2 H=j1 at j ⊢
 cases j1 with
 |false =>
  conv=>whnf
  exact ck rfl (by rw[j];rfl) rfl trivial
 |true =>
 conv=>whnf
 (refine⟨_,_,Y,M ?_⟩)
 exact ck rfl (by rw[j];rfl) rfl trivial
def TZ(w:aQ)(x:bG)(hv:∀p∈w.ah,aW p.ai=true)(hn:w.ah.length<=1000)(h0:∀p∈w.ah,SmJ p.ai)(U:SmJ (dQ w.ah x.ai).1):FnP nn pv0 43 [.agg<|iG w,.agg<|(bw x).map .d] []<|some (.d<|.bool<|wC w x,[]):=by
 refine bq [] (fun|0=>[33333]|1=>[33333]|2=>[33333]|3=>[55555]|5=>[33333,55555]|12=>[55555]|_=>[]) Ad pN Tryz.func43 ?_;conv=>whnf
 have W:=xE (cx' :=nn) (kC w x.ai hv<|by omega) rfl rfl;have V:=xE (cx' :=nn) (uE w x.ai hv<|by omega) rfl rfl;have hK:=xE (cx' :=nn) (rA x.key) rfl rfl;have j:∃r,r=wC w x:=⟨_,rfl⟩
 obtain⟨r,j⟩:=j;rw[<- j];unfold wC at j;generalize cq w.ah x.ai=c at W j;generalize dQ w.ah x.ai=H at V j U;obtain⟨c,Z⟩:=c;obtain⟨H,Y⟩:=H;dsimp only at W V j U;refine⟨[2,3],_,V,⟨rfl,rfl,rfl⟩,M ?_⟩
 refine aN<|M ?_
 refine⟨[2,3,5],_,W,⟨rfl,rfl,rfl⟩,M ?_⟩
 refine aN<|M ?_
 refine⟨_,aq.keep (sl:=[(2,.ptr 2 0),(3,.ptr 3 0),(5,.ptr 5 0),(6,.d<|.bool Y),(8,.d<|.bool Z)]) (h:=[(2,.box<|iG w),(3,.box<|(bw x).map .d),(5,.box<|(aV H).map .d)]),M ?_⟩
 cases Z with
 |false =>
  conv=>whnf
  exact ck rfl (by rw[j];rfl) rfl trivial
 |true =>
 conv=>whnf
 cases Y with
 |false =>
  conv=>whnf
  exact ck rfl (by rw[j];rfl) rfl trivial
 |true =>
 conv=>whnf
 refine⟨_,aq.keep (sl:=[(2,.ptr 2 0),(3,.ptr 3 0),(5,.ptr 5 0)]) (h:=[(2,.box<|iG w),(3,.box<|(bw x).map .d),(5,.box<|(aV H).map .d)]),M ?_⟩
 refine⟨[2,3,5],_,hK,⟨rfl,rfl,rfl⟩,M ?_⟩
 refine aN<|M ?_
 generalize X:([⟨[],x.key.n,x.key.alg⟩]:List Datum)=G at j
 have K :[aS ⟨[],x.key.n,x.key.alg⟩]=G.map aS:=by rw[<- X];rfl
 refine⟨Nat,λk=>⟨[(3,.ptr 3 0),(5,.ptr 5 0),(9,.d<|.slice 3<|G.map aS),(37,.d<|.slice 3<|w.ah.map aP),(38,aj ((w.ah.map aP).length:Int)),(39,aj k)],[(3,.box<|(bw x).map .d),(5,.box<|(aV H).map .d)]⟩,λk=>k<=w.ah.length/\(w.ah.take k).all (λp=> !((p.ai.ag==x.ai)&& !oo p.ai x.ai 7 G))=true,λk=>w.ah.length-k,
  ⟨0,⟨Nat.zero_le _,rfl⟩,aq.keep ⟨ae,ae,⟨by rw[<- K];rfl,rfl⟩,ae,ae,ae,trivial⟩⟩,?_⟩
 rintro k ⟨hk,D⟩;conv=>whnf
 refine aD ?_ ?_<;>intro h1
 .have N:k<w.ah.length:=by simp at h1;omega
  obtain⟨p,hp⟩:∃p,w.ah[k]? =some p:=⟨_,ao N⟩
  refine⟨aB k,aP p,aL hp,M ?_⟩
  have I:(w.ah.take<|k+1).all (λp=> !((p.ai.ag==x.ai)&& !oo p.ai x.ai 7 G))= !((p.ai.ag==x.ai)&& !oo p.ai x.ai 7 G):=by
   rw[cj hp,List.all_append,D];simp
  have J:(!((p.ai.ag==x.ai)&& !oo p.ai x.ai 7 G))=false->r=false:=λh=>by
   have:w.ah.all (λp=> !((p.ai.ag==x.ai)&& !oo p.ai x.ai 7 G))=false:=by
    rw[List.all_eq_false];exact⟨p,aw hp,by rw[h];decide⟩
   rw[j,this];rfl
  have T:=h0 p<|aw hp
  repeat' (first|(refine⟨_,_,uU p.ai x.ai 7 G T.1<|T.2 _ _,M ?_⟩)|(refine aD ?_ ?_<;>intro h)|fail)
  all_goals first
   |exact ck rfl (by rw[J<|by simp only[*, if_true,if_false,aX]];rfl) rfl
   |exact⟨k+1,⟨N,by rw[I];simp only[*, if_true,if_false,aX]⟩,by(show w.ah.length-(k+1)<w.ah.length-k;omega),aq.keep⟩
 .obtain rfl:k=w.ah.length:=by simp at h1;omega
  rw[List.take_length]at D;refine⟨_,aq.keep (sl:=[(3,.ptr 3 0),(5,.ptr 5 0),(9,.d<|.slice 3<|G.map aS)]) (h:=[(3,.box<|(bw x).map .d),(5,.box<|(aV H).map .d)]),M ?_⟩
  (refine⟨_,_,uU H x.ai 6 G U.1<|U.2 _ _,M ?_⟩)
  exact ck rfl (by rw[j,D];rfl) rfl trivial
def GC(w:aQ)(x:bG)(G:yD w)(j:cT w=true)(K:x.kind=1)(D:iP w x.ar=true)(T:∀n∈x.ar,cr w n=true)(U:x.ar.length<=1000)(h1:SmJ (cq w.ah x.ai).1)(N:SmJ (dQ w.ah x.ai).1):FnP nn pv0 17 [.agg<|(bF w).map .d,.agg<|(bw x).map .d] []<|some (.tuple [.d<|.bool<|uh w x,aj 0],[]):=by
 refine bq [] (fun|10=>[33333]|_=>[]) Ad pN Tryz.func17 ?_;have H:=Us w x (λp hp=>(di j p hp).1) G.ah U T h1 N;have J:=Af w G;have I:=zA w x.ar;rw[j]at J;rw[D]at I;generalize uh w x=r at H ⊢;obtain⟨kind,ai,name,ar,key⟩:=x;dsimp only at K;subst K;conv=>whnf
 (refine⟨_,_,J,M ?_⟩)
 (refine⟨_,_,I,M ?_⟩)
 refine⟨[2,3,6],_,H,⟨rfl,rfl,rfl⟩,M ?_⟩
 refine aN<|M ?_
 exact ck rfl rfl rfl trivial
def Ts(w:aQ)(x:bG)(D:yD w)(j:cT w=true)(I:x.kind=2)(h1:∀p∈w.ah,SmJ p.ai)(J:SmJ (dQ w.ah x.ai).1):FnP nn pv0 17 [.agg<|(bF w).map .d,.agg<|(bw x).map .d] []<|some (.tuple [.d<|.bool<|wC w x,aj 0],[]):=by
 refine bq [] (fun|12=>[33333]|_=>[]) Ad pN Tryz.func17 ?_;have G:=TZ w x (λp hp=>(di j p hp).1) D.ah h1 J;have H:=Af w D;rw[j]at H;generalize wC w x=r at G ⊢;obtain⟨kind,ai,name,ar,key⟩:=x;dsimp only at I;subst I;conv=>whnf
 (refine⟨_,_,H,M ?_⟩)
 refine⟨[2,3,6],_,G,⟨rfl,rfl,rfl⟩,M ?_⟩
 refine aN<|M ?_
 exact ck rfl rfl rfl trivial
