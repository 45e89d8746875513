/-
  Merged texts.
-/
import Derived.Test.YtjojkakjmoefaaaGreatDoorTyM
import Derived.Test.YtjojkakjmoefaaaGreatDoorMZb
set_option linter.all false
set_option maxRecDepth 100000
namespace Go.Proofs.YtjojkakjmoefaaaGreatDoor
open NQ Go.RowKit
def aS(d:Datum):List D:=[.str d.text,.int .i64 d.n,.int .i64 d.m]
def oJ(g:Sig):List D:=[.str g.ai,.int .i64 g.key,.int .i64 g.alg,.int .i64 g.since,.int .i64 g.aT,.int .u64 g.sum]
def bV(s:cH):List D:=[.str s.name,.int .i64 s.type,.int .i64 s.aJ,.slice 3<|s.data.map aS]
def an(s:Signed):List D:=[.str s.set.name,.int .i64 s.set.type,.int .i64 s.set.aJ,.slice 3<|s.set.data.map aS,.slice 6<|s.sigs.map oJ]
def aV(z:ax):List D:=[.str z.ag,.slice 5<|z.af.map an]
def eY(q:bO):List D:=[.str q.name,.int .i64 q.type]
def IJ(r:BZ):List D:=[.int .i64 r.text,.int .i64 r.Uk,.int .i64 r.YX,.int .i64 r.Uj,.int .i64 r.YW,.bool r.even,.bool r.single,.bool r.eG]
def LH{w:World}{O L:Nat->Prop}{σ:Nat->Value}{a b:AV}{u v:Value}(h1:aC w O L σ a u)(G:aC w O L σ b v):aC w O L σ (.tuple [a,b])<|.tuple #[u,v]:=by
 refine .tuple _ _ rfl λj c D=>?_
 rcases j with _|_|j
 .cases D;exact h1
 .cases D;exact G
 .simp at D
def ng(s:Bs):NQ.Fn cx 40 [.str s] (.d<|.bool<|aR s) []:=by
 refine eH ⟨_,Tryz.func40,by kernel_rfl,by kernel_rfl⟩ rfl λw vs _ G D=>?_
 obtain⟨b,H,rfl⟩:=fh<|D 0 _ rfl;rw[vu G,H];exact(Nf b w).mono λe w' ⟨I,j⟩=>⟨_,I,j,.gy _⟩
def Gm(s:Bs):NQ.Fn cx 8 [.str s] (.d<|.bool<|aR s) []:=by
 refine eH ⟨_,Tryz.func8,by kernel_rfl,by kernel_rfl⟩ rfl λw vs _ G D=>?_
 obtain⟨b,H,rfl⟩:=fh<|D 0 _ rfl;rw[vu G,H];exact(IX b w).mono λe w' ⟨I,j⟩=>⟨_,I,j,.gy _⟩
def yz(s:Bs):NQ.Fn cx 152 [.str s] (.d<|.bool<|nc s) []:=by
 refine eH ⟨_,Tryz.func152,by kernel_rfl,by kernel_rfl⟩ rfl λw vs _ G D=>?_
 obtain⟨b,H,rfl⟩:=fh<|D 0 _ rfl;rw[vu G,H];exact(Cw b w).mono λe w' ⟨I,j⟩=>⟨_,I,j ▸ Below.refl _ _,.gy _⟩
def Gl(s:Bs):NQ.Fn cx 141 [.str s] (.tuple [.d<|.str (iR s).1,.d<|.int .i64 (iR s).2]) []:=by
 refine eH ⟨_,Tryz.func141,by kernel_rfl,by kernel_rfl⟩ rfl λw vs _ G D=>?_
 obtain⟨b,H,rfl⟩:=fh<|D 0 _ rfl;rw[vu G,H];exact(IW b w).mono λe w' ⟨I,j⟩=>⟨_,I,j,LH (.d _ _<|.str _ _<|S_mk _)<|.mkInt _ _⟩
def pd(s z:Bs):NQ.Fn cx 136 [.str s,.str z] (.tuple [.d<|.bool (bD s z).1,.d<|.int .i64 (bD s z).2]) []:=by
 refine eH ⟨_,Tryz.func136,by kernel_rfl,by kernel_rfl⟩ rfl λw vs _ G j=>?_
 obtain⟨b,H,rfl⟩:=fh<|j 0 _ rfl;obtain⟨c,I,rfl⟩:=fh<|j 1 _ rfl;rw[vv G,H,I];exact(Nd b c w).mono λe w' ⟨J,D⟩=>⟨_,J,D,LH (.gy _)<|.mkInt _ _⟩
def wS(s z:Bs):NQ.Fn cx 164 [.str s,.str z] (.tuple [.d<|.int .i64 (dE s z).1,.d<|.int .i64 (dE s z).2]) []:=by
 refine eH ⟨_,Tryz.func164,by kernel_rfl,by kernel_rfl⟩ rfl λw vs _ G j=>?_
 obtain⟨b,H,rfl⟩:=fh<|j 0 _ rfl;obtain⟨c,I,rfl⟩:=fh<|j 1 _ rfl;rw[vv G,H,I];exact(Ie b c w).mono λe w' ⟨J,D⟩=>⟨_,J,D,LH (.mkInt _ _)<|.mkInt _ _⟩
def aaV(s z:Bs)(K:s.length<=60)(N:z.length<=60):NQ.Fn cx 9 [.str s,.str z] (.d<|.bool<|bd s z) []:=by
 refine eH ⟨_,Tryz.func9,by kernel_rfl,by kernel_rfl⟩ rfl λw vs _ G j=>?_
 obtain⟨b,H,rfl⟩:=fh<|j 0 _ rfl;obtain⟨c,I,rfl⟩:=fh<|j 1 _ rfl;rw[vv G,H,I];exact(SD b c (by simpa using K) (by simpa using N) w).mono λe w' ⟨J,D⟩=>⟨_,J,D,.gy _⟩
def Ib(x I G:Int):NQ.Fn cx 151 [.int .i64 x,.int .i64 I,.int .i64 G] (.d<|.bool<|within x I G) []:=by
 refine eH ⟨_,Tryz.func151,by kernel_rfl,by kernel_rfl⟩ rfl λw vs _ H j=>?_
 rw[Zi H,wN<|j 0 _ rfl,wN<|j 1 _ rfl,wN<|j 2 _ rfl];exact(mF x I G w).mono λe w' ⟨J,D⟩=>⟨_,J,D ▸ Below.refl _ _,.gy _⟩
def Xf(x:Int):NQ.Fn cx 109 [.int .i64 x] (.d<|.bool false) []:=by
 refine bL bf mixed Tryz.func109 ?_
 repeat' (first|(refine aD ?_ ?_<;>intro h)|fail)
 all_goals (refine ak rfl ?_;simp[D.gT])
def nk(x y:Int):NQ.Fn cx 58 [.int .i64 x,.int .i64 y] (aj<|dI x y) []:=by
 refine bL bf mixed Tryz.func58 ?_
 repeat' (first|(refine⟨_,_,Xf _,M ?_⟩)|(refine aD ?_ ?_<;>intro h)|fail)
 all_goals (refine ak rfl ?_;simp_all [D.gT,dI];try omega)
def yP(x y:Bs):NQ.Fn cx 127 [.str x,.str y] (aj<|Go.Lib.compareBytes x y) []:=by
 refine eH ⟨_,Tryz.func127,by kernel_rfl,by kernel_rfl⟩ rfl λw vs _ G j=>?_
 obtain⟨b,H,rfl⟩:=fh<|j 0 _ rfl;obtain⟨c,I,rfl⟩:=fh<|j 1 _ rfl;rw[vv G,H,I];exact(Dj b c w).mono λe w' ⟨J,D⟩=>⟨_,J,D ▸ Below.refl _ _,.mkInt _ _⟩
end Go.Proofs.YtjojkakjmoefaaaGreatDoor

namespace Go.Proofs.YtjojkakjmoefaaaGreatDoor
open NQ Go.RowKit
def nF(l:List Int):Int:=(l.find? (· != 0)).getD 0
variable {k:Nat}
def NW{l:List Int}(h:(List.range k).all (λi=>(l[i]?.getD 0)==0)=true)(H:l.length<=k):nF l=0:=by
 have:l.find? (· != 0)=none:=by
  rw[List.find?_eq_none];intro x G;obtain⟨j,D,rfl⟩:=List.getElem_of_mem G;have:=aG.1 h j (List.mem_range.2<|by omega);simpa [D] using this
 rw[nF,this];rfl
def NX{l:List Int}:∀{k:Nat} {x:Int},(List.range k).all (λi=>(l[i]?.getD 0)==0)=true->l[k]? =some x->x≠0->nF l=x:=by
 induction l with
 |nil=>intro k x _ h;simp at h
 |cons a t H =>
  intro k x h j h0;cases k with
  |zero=>simp at j;subst j;simp[nF,h0]
  |succ k =>
   have D:a=0:=by have:=aG.1 h 0 (List.mem_range.2<|by omega);simpa using this
   have:=H (k:=k) (x:=x) (aG.2 λi G=>by
    have:=aG.1 h (i+1) (List.mem_range.2<|by have:=List.mem_range.1 G;omega);simpa using this) (by simpa using j) h0
   simpa [nF,D] using this
def PC(x y z:Int):nF [x,y,z]=if x=0 then(if y=0 then z else y)else x:=by
 by_cases j:x=0<;>by_cases D:y=0<;>by_cases G:z=0<;>simp[nF,j,D,G]
def TX(s:Bs):NQ.Fn cx 201 [.str s] (.d<|.bool<|jS s) []:=by
 refine eH ⟨_,Tryz.func201,by kernel_rfl,by kernel_rfl⟩ rfl λw vs _ G D=>?_
 obtain⟨b,H,rfl⟩:=fh<|D 0 _ rfl;rw[vu G,H];exact(Kz b w).mono λe w' ⟨I,j⟩=>⟨_,I,j ▸ Below.refl _ _,.gy _⟩
def Iw(r:BZ)(d:Datum):NQ.Fn cx 153 [.agg<|IJ r,.agg<|aS d] (.d<|.bool<|iA r d) []:=by
 refine bL bf mixed Tryz.func153 ?_
 repeat' (first|(refine⟨_,_,Ib _ _ _,M ?_⟩)|(refine⟨_,_,yz _,M ?_⟩)|(refine⟨_,_,ng _,M ?_⟩)|(refine⟨_,_,TX _,M ?_⟩)|(refine aD ?_ ?_<;>intro h)|fail)
 all_goals
  refine ak rfl ?_;simp only[D.gT,iA,si]
  simp_all
def eN(n:Int):List D:=[.int .i64 n]
def IG(l:List Int)(I:l.length<=1000):NQ.Fn cx 57 [.slice 1<|l.map eN] (aj<|nF l) []:=by
 refine bL bf mixed Tryz.func57 ?_;refine⟨Nat,λk=>⟨[(0,.d<|.slice 1<|l.map eN),(3,aj 0),(6,.d<|.slice 1<|l.map eN),(7,aj ((l.map eN).length:Int)),(8,aj k)],[]⟩,
  λk=>k<=l.length/\(List.range k).all (λi=>(l[i]?.getD 0)==0)=true,λk=>l.length-k,⟨0,⟨by omega,rfl⟩,aI.keep⟩,λk ⟨H,j⟩=>M ?_⟩
 refine aD ?_ ?_<;>intro h1
 .have G:k<l.length:=by simp at h1;omega
  obtain⟨g,D⟩:∃g,l[k]? =some g:=⟨_,ao G⟩
  refine⟨aB k,eN g,aL D,M ?_⟩
  refine aD ?_ ?_<;>intro h
  .refine ak rfl ?_;rw[NX j D<|by simpa using h];rfl
  .refine⟨k+1,⟨by omega,?_⟩,by(show l.length-(k+1)<l.length-k;omega),aI.keep⟩;rw[eD,j,D];simpa using h
 .refine ak rfl ?_;rw[NW j<|by simp at h1;omega];rfl
def Fl(a b:Datum):NQ.Fn cx 154 [.agg<|aS a,.agg<|aS b] (aj<|gX a b) []:=by
 refine bL bf mixed Tryz.func154 ?_
 repeat' (first|(refine bJ<|M ?_)|(refine⟨_,_,yP _ _,M ?_⟩)|(refine⟨_,_,nk _ _,M ?_⟩)|fail)
 refine⟨_,IG [_,_,_]<|by simp,rfl,M ?_⟩
 refine ak rfl ?_;rw[PC];rfl
def rQ(r:BZ)(i:Nat)(d p:Datum):Bool:= !iA r d||(decide ((i:Int)>0)&&decide (gX p d>=0))
def uN(r:BZ)(l:List Datum)(i:Nat):Bool:=match l[i]?, l[i-1]? with|some d,some p=> !rQ r i d p|_,_=>false
variable {i:Nat}
def xp{r:BZ}{l:List Datum}{d p:Datum}(h1:l[i]? =some d)(j:l[i-1]? =some p):uN r l i= !rQ r i d p:=by simp only[uN,h1,j]
def eE(s:cH):Bool :=
 !((!aR s.name|| !within s.type 1 8|| !within s.aJ 0 100000)|| !within s.data.length 1 8 ||
  (((nO s.type).single&&((s.data.length:Int) != 1))||(nc s.name&& !(nO s.type).eG)))&&(List.range s.data.length).all (uN (nO s.type) s.data)
def RJ{t:Int}(h:within t 1 8=true):0<=t/\t<9/\ ∃j,zQ.drop (t.toNat*8)=IJ (nO t)++j:=by
 simp[within]at h;refine⟨by omega,by omega,?_⟩;have:t=1\/t=2\/t=3\/t=4\/t=5\/t=6\/t=7\/t=8:=by omega
 rcases this with rfl|rfl|rfl|rfl|rfl|rfl|rfl|rfl<;>exact⟨_,rfl⟩
def oQ(s:cH):NQ.Fn cx 96 [.agg<|bV s] (.d<|.bool<|eE s) []:=by
 refine bL bf mixed Tryz.func96 ?_
 repeat' (first|(refine⟨_,_,Ib _ _ _,M ?_⟩)|(refine⟨_,_,ng _,M ?_⟩)|(refine aD ?_ ?_<;>intro h)|(refine ak rfl ?_;show AV.d (D.bool false)=_;(try simp only[au]at *);simp only[eE, *, if_true,if_false,aX];done)|fail)
 have V:within s.type 1 8=true:=by simp_all
 obtain⟨W,X,T,H⟩:=RJ V;refine⟨W,X,?_⟩;show kr (some<|AV.d<|.ptr<|zQ.drop<|s.type.toNat*8) _
 rw[H];generalize hr:nO s.type=r;conv=>whnf
 repeat' (first|(refine⟨_,_,yz _,M ?_⟩)|(refine aD ?_ ?_<;>intro h)|(refine ak rfl ?_;show AV.d (D.bool false)=_;(try simp only[au]at *);simp only[eE, *, if_true,if_false,aX];done)|fail)
 all_goals
  have Z:s.data.length<=8:=by simp[within]at *; omega
  have G:eE s=(List.range s.data.length).all (uN r s.data):=by
   simp only[au]at *;simp only[eE, *, if_true,if_false,aX]
  refine⟨Nat,λk=>⟨[(1,.ptr 1 0),(3,.ptr 3 0),(50,.d<|.slice 3<|s.data.map aS),(51,aj ((s.data.map aS).length:Int)),(52,aj k)],[(1,.box<|(bV s).map .d),(3,.box<|(IJ r).map .d)]⟩,
   λk=>k<=s.data.length/\(List.range k).all (uN r s.data)=true,λk=>s.data.length-k,⟨0,⟨by omega,rfl⟩,aI.keep ⟨ae,ae,ae,ae,ae,trivial⟩ ⟨ae,⟨(by first|rfl|(show some (Blk.box [_,_,_,_,_,_,_,_])=_;simp only[IJ,List.map_cons,List.map_nil, *])),rfl⟩,trivial⟩⟩,λk ⟨Y,j⟩=>M ?_⟩
  refine aD ?_ ?_<;>intro h1
  .have J:k<s.data.length:=by simp at h1;omega
   obtain⟨g,N⟩:∃g,s.data[k]? =some g:=⟨_,ao J⟩
   obtain⟨p,hp⟩:∃p,s.data[k-1]? =some p:=⟨_,ao<|by omega⟩
   have I:=xp (r:=r) N hp;have K:uN r s.data k=false->eE s=false:=λU=>by rw[G,eZ J U]
   refine⟨aB k,aS g,aL N,M ?_⟩
   repeat' (first
    |(refine bJ<|M ?_)
    |(refine⟨_,_,Iw r g,M ?_⟩)
    |(refine⟨_,_,Fl p g,M ?_⟩)
    |(refine aD ?_ ?_<;>intro h)
    |(refine⟨(po (by assumption)<|by omega).1,aS p,nB (by assumption) (by omega) hp,M ?_⟩)
    |fail)
   all_goals first
    |(refine ak rfl ?_;show AV.d (D.bool false)=_;rw[K<|by rw[I];simp only[rQ, *, if_true,if_false,aX]])
    |(refine⟨k+1,⟨by omega,?_⟩,by(show s.data.length-(k+1)<s.data.length-k;omega),aI.keep⟩;rw[eD,j,I];simp only[rQ, *, if_true,if_false,aX])
    |fail
  .refine ak rfl ?_;obtain rfl:k=s.data.length:=by simp at h1;omega
   show AV.d (D.bool true)=_
   rw[G,j]
def uJ(a:Bs)(s:Int)(b:Bs)(t:Int):Int:=if a=b then dI s t else(dE a b).1
def fits(t:Int)(j:Bool):Bool:=if t=3\/t=6 then !j else if t=4\/t=7 then j else true
def Ew(i:Nat)(ag:Bs)(g f p:Sig):Bool :=
 !(g.ai==ag)||decide (g.key<1)||decide (g.key>1000000)||decide (g.alg<1)||decide (g.alg>3)||(decide (g.since<0)||decide (g.since>g.aT)||decide (g.aT>20000000)) ||
  (decide ((i:Int)>0)&&(g.since != f.since||g.aT != f.aT||decide (g.key<=p.key)))
def AU(l:List Sig)(ag:Bs)(i:Nat):Bool :=
 match l[i]?, l[0]?, l[i-1]? with
 |some g,some f,some p=> !Ew i ag g f p
 |_,_,_=>false
def Yd{l:List Sig}{ag:Bs}{g f p:Sig}(D:l[k]? =some g)(j:l[0]? =some f)(hp:l[k-1]? =some p):AU l ag k= !Ew k ag g f p:=by
 simp only[AU,D,j,hp]
def nC(l:List Sig)(ag:Bs):Bool:= !decide ((l.length:Int)>6)&&(List.range l.length).all (AU l ag)
def tR(a:Bs)(s:Int)(b:Bs)(t:Int):NQ.Fn cx 198 [.str a,.int .i64 s,.str b,.int .i64 t] (aj<|uJ a s b t) []:=by
 refine bL bf mixed Tryz.func198 ?_
 repeat' (first|(refine aD ?_ ?_<;>intro h)|(refine⟨_,_,wS _ _,M ?_⟩)|(refine⟨_,_,nk _ _,M ?_⟩)|fail)
 all_goals (refine ak rfl ?_;simp_all [D.gT,uJ])
def Nv(t:Int)(j:Bool):NQ.Fn cx 199 [.int .i64 t,.bool j] (.d<|.bool<|fits t j) []:=by
 refine bL bf mixed Tryz.func199 ?_
 repeat' (first|(refine aD ?_ ?_<;>intro h)|fail)
 all_goals (refine ak rfl ?_;simp_all [D.gT,fits])
def TT(l:List Sig)(ag:Bs):NQ.Fn cx 200 [.slice 6<|l.map oJ,.str ag] (.d<|.bool<|nC l ag) []:=by
 refine bL bf mixed Tryz.func200 ?_;refine aD ?_ ?_<;>intro h
 . (refine ak rfl ?_;show AV.d (D.bool false)=_;(try simp only[au]at *);simp only[nC, *, if_true,if_false,aX];done)
 .have V:l.length<=6:=by simp at h;omega
  have G:nC l ag=(List.range l.length).all (AU l ag):=by
   simp only[au]at h;simp only[nC,h,if_true,if_false,aX]
  refine⟨Nat,λk=>⟨[(0,.d<|.slice 6<|l.map oJ),(1,.d<|.str ag),(10,.d<|.slice 6<|l.map oJ),(11,aj ((l.map oJ).length:Int)),(12,aj k)],[]⟩,λk=>k<=l.length/\(List.range k).all (AU l ag)=true,λk=>l.length-k,⟨0,⟨by omega,rfl⟩,aI.keep⟩,λk ⟨U,j⟩=>M ?_⟩
  refine aD ?_ ?_<;>intro h1
  .have I:k<l.length:=by simp at h1;omega
   obtain⟨g,N⟩:∃g,l[k]? =some g:=⟨_,ao I⟩
   obtain⟨f,K⟩:∃f,l[0]? =some f:=⟨_,ao<|by omega⟩
   obtain⟨p,hp⟩:∃p,l[k-1]? =some p:=⟨_,ao<|by omega⟩
   have H:=Yd (ag:=ag) N K hp;have J:AU l ag k=false->nC l ag=false:=λT=>by rw[G,eZ I T]
   refine⟨aB k,oJ g,aL N,M ?_⟩
   repeat' (first
    |(refine aD ?_ ?_<;>intro h)
    |(refine bJ<|M ?_)
    |(refine⟨(by decide:(0:Int)<=0),oJ f,aL K,M ?_⟩)
    |(refine⟨(po (by assumption)<|by omega).1,oJ p,nB (by assumption) (by omega) hp,M ?_⟩)
    |fail)
   all_goals first
    |(refine ak rfl ?_;show AV.d (D.bool false)=_;rw[J<|by rw[H];simp only[Ew, *, if_true,if_false,aX]])
    |(refine⟨k+1,⟨by omega,?_⟩,by(show l.length-(k+1)<l.length-k;omega),aI.keep⟩;rw[eD,j,H];simp only[Ew, *, if_true,if_false,aX])
    |fail
  .refine ak rfl ?_;obtain rfl:k=l.length:=by simp at h1;omega
   show AV.d (D.bool true)=_
   rw[G,j]
def Kb(s:Signed)(q:bO):NQ.Fn cx 197 [.agg<|an s,.agg<|eY q] (aj<|uJ s.set.name s.set.type q.name q.type) []:=by
 refine bL bf mixed Tryz.func197 ?_
 (refine⟨_,_,tR _ _ _ _,M ?_⟩)
 exact ak rfl rfl
def plc(s:Signed)(q:bO):Int:=uJ s.set.name s.set.type q.name q.type
def Split(l:List Signed)(q:bO)(c:Nat):Prop:=c<=l.length/\(∀i s,l[i]? =some s->i<c->plc s q<0)/\(∀i s,l[i]? =some s->c<=i->0<=plc s q)
def foundAt(l:List Signed)(q:bO)(c:Nat):Bool:=match l[c]? with|some s=>plc s q==0|none=>false
def DQ{j:Nat}(h:i+j<=1000000000):IntKind.i64.wrap ((IntKind.u64.wrap<|IntKind.i64.wrap<|(i:Int)+(j:Int)).fdiv<|2 ^ min (Int.toNat 1) IntKind.u64.bits)=(((i+j) / 2:Nat):Int):=by
 rw[show((2:Int) ^ min (Int.toNat 1) IntKind.u64.bits)=2 from rfl];have h1:IntKind.i64.wrap ((i:Int)+(j:Int))=((i+j:Nat):Int):=by rw[wrap_i64 (by omega)<|by omega];omega
 have D:IntKind.u64.wrap ((i+j:Nat):Int)=((i+j:Nat):Int):=by simp[IntKind.wrap,IntKind.signed,IntKind.bits];omega
 rw[h1,D,Int.fdiv_eq_ediv_of_nonneg _<|by decide,wrap_i64 (by omega)<|by omega];omega
def UK(l:List Signed)(q:bO)(c:Nat)(U:l.length<=100000)(I:Split l q c) :
 NQ.Fn cx 196 [.slice 5<|l.map an,.agg<|eY q,.fn 197 [] []] (.tuple [aj c,.d<|.bool<|foundAt l q c]) []:=by
 refine bL bf mixed Tryz.func196 ?_;refine⟨Nat×Nat,λx=>⟨[(0,.d<|.slice 5<|l.map an),(2,.d<|.fn 197 [] []),(4,.ptr 4 0),(8,aj ((l.map an).length:Int)),(9,aj x.1),(10,aj x.2)],[(4,.box<|(eY q).map .d)]⟩,
  λx=>x.1<=c/\c<=x.2/\x.2<=l.length,λx=>x.2-x.1,⟨(0,l.length),⟨by omega,I.1,by omega⟩,aI.keep ⟨ae,ae,ae,ae,ae,⟨(by show AV.d (D.int _ _)=_;simp),rfl⟩,trivial⟩ ⟨ae,trivial⟩⟩,λ⟨i,j⟩ ⟨h1,K,N⟩=>?_⟩
 dsimp only at h1 K N ⊢;conv=>whnf
 refine aD ?_ ?_<;>intro h
 .have T:i<j:=by simp at h;omega
  (refine bJ<|M ?_)
  rw[DQ<|by omega];obtain⟨s,G⟩:∃s,l[(i+j) / 2]? =some s:=⟨_,ao<|by omega⟩
  refine⟨aB _,an s,aL G,M ?_⟩
  (refine⟨_,_,Kb s q,M ?_⟩)
  refine aD ?_ ?_<;>intro h
  .have H:(i+j) / 2<c:=by
    rcases Nat.lt_or_ge ((i+j) / 2) c with hh|hh
    .exact hh
    .have:=I.2.2 _ s G hh;simp[plc]at h this;omega
   exact⟨((i+j) / 2+1,j),⟨by dsimp only;omega,K,N⟩,by dsimp only;omega,aI.keep⟩
  .have J:c<=(i+j) / 2:=by
    rcases Nat.lt_or_ge ((i+j) / 2) c with hh|hh
    .have:=I.2.1 _ s G hh;simp[plc]at h this;omega
    .exact hh
   exact⟨(i,(i+j) / 2),⟨h1,J,by dsimp only;omega⟩,by dsimp only;omega,aI.keep⟩
 .obtain rfl:i=c:=by simp at h;omega
  clear h
  (refine bJ<|M ?_)
  refine aD ?_ ?_<;>intro h
  .have H:i<l.length:=by simp at h;omega
   obtain⟨s,G⟩:∃s,l[i]? =some s:=⟨_,ao H⟩
   refine⟨aB _,an s,aL G,M ?_⟩
   (refine⟨_,_,Kb s q,M ?_⟩)
   refine ak rfl ?_;show AV.tuple [AV.d<|.int .i64 i,AV.d<|.bool _]=_
   simp[foundAt,plc,G]
  .refine ak rfl ?_;show AV.tuple [AV.d<|.int .i64 i,AV.d<|.bool _]=_
   have:l[i]? =none:=by simp at h;simp;omega
   simp[foundAt,this]
def ZH(z:ax)(q:bO)(c:Nat)(D:z.af.length<=100000)(j:Split z.af q c) :
 NQ.Fn cx 142 [.agg<|aV z,.agg<|eY q] (.tuple [aj c,.d<|.bool<|foundAt z.af q c]) []:=by
 refine bL bf mixed Tryz.func142 ?_
 (refine⟨_,_,UK z.af q c D j,M ?_⟩)
 exact ak rfl rfl
def rZ(ag:Bs)(i:Nat)(s p:Signed):Bool:= !eE s.set|| !(bD s.set.name ag).1||(!((i:Int)==0)&&decide (uJ p.set.name p.set.type s.set.name s.set.type>=0))
def xU(z:ax)(i:Nat):Bool:=match z.af[i]?, z.af[i-1]? with|some s,some p=> !rZ z.ag i s p|_,_=>false
variable {z:ax}{s:Signed}
def CD{p:Signed}(h1:z.af[i]? =some s)(j:z.af[i-1]? =some p):xU z i= !rZ z.ag i s p:=by simp only[xU,h1,j]
def ordered(z:ax):Bool:= !((!aR z.ag||nc z.ag)||decide ((z.af.length:Int)>20000))&&(List.range z.af.length).all (xU z)
def Pk(h:((k:Int)==0)=false):decide ((k:Int)>0)=true:=by simp at h ⊢;omega
def Oo(s:Bs):Go.Lib.hasPrefix s [42]=nc s:=by
 unfold Go.Lib.hasPrefix nc;cases s with
 |nil=>rfl
 |cons c t=>simp only[List.isPrefixOf,List.head?_cons];rw[Bool.eq_iff_iff];simp;exact eq_comm
def PN(s:Bs):NQ.Fn cx 91 [.str s,.str [42]] (.d<|.bool<|nc s) []:=by
 refine eH ⟨_,Tryz.func91,by kernel_rfl,by kernel_rfl⟩ rfl λw vs _ G j=>?_
 obtain⟨b,H,rfl⟩:=fh<|j 0 _ rfl;obtain⟨c,I,D⟩:=fh<|j 1 _ rfl;rw[vv G,H,I];refine(Tryz.strings_HasPrefix _ _ _).mono ?_;rintro e w' ⟨rfl,rfl⟩;rw[D,Oo];exact⟨_,rfl,Below.refl _ _,.gy _⟩
def Ry(z:ax):NQ.Fn cx 144 [.agg<|aV z] (.d<|.bool<|ordered z) []:=by
 refine bL bf mixed Tryz.func144 ?_
 repeat' (first|(refine⟨_,_,ng _,M ?_⟩)|(refine⟨_,_,PN _,M ?_⟩)|(refine aD ?_ ?_<;>intro h)|(refine ak rfl ?_;show AV.d (D.bool false)=_;(try simp only[au]at *);simp only[ordered, *, if_true,if_false,aX];done)|fail)
 have U:z.af.length<=20000:=by simp at *; omega
 have G:ordered z=(List.range z.af.length).all (xU z):=by
  simp only[au]at *;simp only[ordered, *, if_true,if_false,aX]
 refine⟨Nat,λk=>⟨[(1,.ptr 1 0),(28,.d<|.slice 5<|z.af.map an),(29,aj ((z.af.map an).length:Int)),(30,aj k)],[(1,.box<|(aV z).map .d)]⟩,
  λk=>k<=z.af.length/\(List.range k).all (xU z)=true,λk=>z.af.length-k,⟨0,⟨by omega,rfl⟩,aI.keep⟩,λk ⟨T,j⟩=>M ?_⟩
 refine aD ?_ ?_<;>intro h1
 .have I:k<z.af.length:=by simp at h1;omega
  obtain⟨s,K⟩:∃s,z.af[k]? =some s:=⟨_,ao I⟩
  obtain⟨p,hp⟩:∃p,z.af[k-1]? =some p:=⟨_,ao<|by omega⟩
  have H:=CD K hp;have J:xU z k=false->ordered z=false:=λN=>by rw[G,eZ I N]
  refine⟨aB k,an s,aL K,M ?_⟩
  repeat' (first
   |(refine⟨_,_,oQ s.set,M ?_⟩)
   |(refine⟨_,_,pd _ _,M ?_⟩)
   |(refine⟨_,_,tR _ _ _ _,M ?_⟩)
   |(refine aD ?_ ?_<;>intro h)
   |(refine bJ<|M ?_)
   |(refine⟨(po (Pk<|by assumption)<|by omega).1,an p,nB (Pk<|by assumption) (by omega) hp,M ?_⟩)
   |fail)
  all_goals first
   |(refine ak rfl ?_;show AV.d (D.bool false)=_;rw[J<|by rw[H];simp only[rZ, *, if_true,if_false,aX]])
   |(refine⟨k+1,⟨by omega,?_⟩,by(show z.af.length-(k+1)<z.af.length-k;omega),aI.keep⟩;rw[eD,j,H];simp only[rZ, *, if_true,if_false,aX])
   |fail
 .refine ak rfl ?_;obtain rfl:k=z.af.length:=by simp at h1;omega
  show AV.d (D.bool true)=_
  rw[G,j]
def uQ(z:ax)(i:Nat):Bool:=match z.af[i]? with|some s=>fits s.set.type<|s.set.name==z.ag|none=>false
def rl(has:Int->Bool)(z:ax):Bool:=has 4&&has 2&&(List.range z.af.length).all (uQ z)
def Jm(z:ax)(hn:z.af.length<=100000)(U:Int->Nat)(has:Int->Bool)(W:∀t,NQ.Fn cx 142 [.agg<|aV z,.agg<|eY ⟨z.ag,t⟩] (.tuple [aj<|U t,.d<|.bool<|has t]) []) :
 NQ.Fn cx 145 [.agg<|aV z] (.d<|.bool<|rl has z) []:=by
 refine bL bf mixed Tryz.func145 ?_;refine⟨Nat,λk=>⟨[(1,.ptr 1 0),(9,.own 9),(10,aj 2),(11,aj k)],[(1,.box<|(aV z).map .d),(9,.row 3 1 [[.int .i64 4],[.int .i64 2]])]⟩,
  λk=>k<=2/\(0<k->has 4=true)/\(1<k->has 2=true),λk=>2-k,⟨0,⟨by omega,by omega,by omega⟩,aI.keep⟩,λk ⟨hk,K,V⟩=>M ?_⟩
 refine aD ?_ ?_<;>intro h1
 .have H:k<2:=by simp at h1;omega
  have N:k=0\/k=1:=by omega
  rcases N with rfl|rfl
  .refine⟨by decide,by decide,M ?_⟩
   refine⟨[.int .i64 4],rfl,M ?_⟩
   (refine⟨_,_,W 4,M ?_⟩)
   refine aD ?_ ?_<;>intro h
   .refine ak rfl ?_;have I:has 4=false:=by simpa using h
    simp[D.gT,rl,I]
   .exact⟨1,⟨by omega,λ_=>by simpa using h,by omega⟩,by decide,aI.keep⟩
  .refine⟨by decide,by decide,M ?_⟩
   refine⟨[.int .i64 2],rfl,M ?_⟩
   (refine⟨_,_,W 2,M ?_⟩)
   refine aD ?_ ?_<;>intro h
   .refine ak rfl ?_;have I:has 2=false:=by simpa using h
    simp[D.gT,rl,I]
   .exact⟨2,⟨by omega,λ_=>K<|by omega,λ_=>by simpa using h⟩,by decide,aI.keep⟩
 .have h2:k=2:=by simp at h1;omega
  have I:=K (by omega);have Y:=V (by omega);have G:rl has z=(List.range z.af.length).all (uQ z):=by simp only[rl,I,Y,if_true,if_false,aX]
  clear h1 K V;refine⟨Nat,λk=>⟨[(1,.ptr 1 0),(30,.d<|.slice 5<|z.af.map an),(31,aj ((z.af.map an).length:Int)),(32,aj k)],[(1,.box<|(aV z).map .d)]⟩,
   λk=>k<=z.af.length/\(List.range k).all (uQ z)=true,λk=>z.af.length-k,⟨0,⟨by omega,rfl⟩,aI.keep⟩,λk ⟨hk,j⟩=>M ?_⟩
  refine aD ?_ ?_<;>intro h1
  .have H:k<z.af.length:=by simp at h1;omega
   obtain⟨s,X⟩:∃s,z.af[k]? =some s:=⟨_,ao H⟩
   have J:uQ z k=fits s.set.type (s.set.name==z.ag):=by simp only[uQ,X]
   have T:uQ z k=false->rl has z=false:=λZ=>by rw[G,eZ H Z]
   refine⟨aB k,an s,aL X,M ?_⟩
   repeat' (first|(refine⟨_,_,Nv _ _,M ?_⟩)|(refine aD ?_ ?_<;>intro h)|(refine bJ<|M ?_)|fail)
   all_goals first
    |(refine ak rfl ?_;show AV.d (D.bool false)=_;rw[T<|by rw[J];simp_all])
    |(refine⟨k+1,⟨by omega,?_⟩,by(show z.af.length-(k+1)<z.af.length-k;omega),aI.keep⟩;rw[eD,j,J];simp_all)
    |fail
  .refine ak rfl ?_;obtain rfl:k=z.af.length:=by simp at h1;omega
   show AV.d (D.bool true)=_
   rw[G,j]
def cK(s:Bs):List D:=[.str s]
def vP(z:ax)(b:List Bs):List D:=[.str z.ag,.slice 5<|z.af.map an,.slice 1<|b.map cK]
def yG(n i:Nat)(s p x:Signed):Bool :=
 !(s.set.type != 3)&&((decide ((i:Int)>0)&&(p.set.name==s.set.name))||(decide (((i:Nat):Int)+1<(n:Int))&&(x.set.name==s.set.name)&&(x.set.type != 8)))
def rj(z:ax)(i:Nat):Bool :=
 match z.af[i]? with
 |some s=> !yG z.af.length i s ((z.af[i-1]?).getD s) ((z.af[i+1]?).getD s)
 |none=>false
def aliases(z:ax):Bool:=(List.range z.af.length).all<|rj z
def qg(s:Signed)(b:Bs):Bool :=
 if (b==[])=true then s.set.type==6
 else if (b==s.set.name)=true then(s.set.type != 2)&&(s.set.type != 6)&&(s.set.type != 8)&&(s.set.type != 1)
 else s.set.type != 1
def cutAt(z:ax)(b:List Bs)(i:Nat):Bool:=match z.af[i]?, b[i]? with|some s,some x=> !qg s x|_,_=>false
def sK(z:ax)(b:List Bs):Bool:=(List.range z.af.length).all<|cutAt z b
def sf(s:Signed)(b:Bs):Bool:=(!(b==[])&&((s.set.type==2)||(s.set.type==1)))&&decide ((s.sigs.length:Int)>0)
def yd(z:ax)(b:List Bs)(i:Nat):Bool:=match z.af[i]?, b[i]? with|some s,some x=> !sf s x|_,_=>false
def yf(z:ax)(b:List Bs):Bool:=(List.range z.af.length).all<|yd z b
def sP(z:ax)(i:Nat):Bool:=match z.af[i]? with|some s=>nC s.sigs z.ag|none=>false
def xA(z:ax):Bool:=(List.range z.af.length).all<|sP z
def wrap_add(j:k<=4611686018427387904):IntKind.i64.wrap ((k:Int)+1)=(k:Int)+1:=wrap_i64 (by omega) (by omega)
variable {α:Type}
def XF{f:α->List D}{l:List α}{g:α}(j:l[k+1]? =some g):(l.map f)[((k:Int)+1).toNat]? =some (f g):=by
 rw[show((k:Int)+1).toNat=k+1 by omega];simp[j]
def Fc(z:ax)(b:List Bs)(Y:z.af.length<=100000):NQ.Fn cx 147 [.agg<|vP z b] (.d<|.bool<|aliases z) []:=by
 refine bL bf mixed Tryz.func147 ?_;have G:aliases z=(List.range z.af.length).all (rj z):=rfl;refine⟨Nat,λk=>⟨[(1,.ptr 1 0),(8,.d<|.slice 5<|z.af.map an),(9,aj ((z.af.map an).length:Int)),(10,aj k)],[(1,.box<|(vP z b).map .d)]⟩,λk=>k<=z.af.length/\(List.range k).all (rj z)=true,λk=>z.af.length-k,⟨0,⟨by omega,rfl⟩,aI.keep⟩,λk ⟨X,j⟩=>?_⟩;(conv=>whnf);refine aD ?_ ?_<;>intro h1
 .have I:k<z.af.length:=by simp at h1;omega
  obtain⟨s,U⟩:∃s,z.af[k]? =some s:=⟨_,ao I⟩
  obtain⟨p,hp⟩:∃p,z.af[k-1]? =some p:=⟨_,ao<|by omega⟩
  obtain⟨x,N⟩:∃x,x=(z.af[k+1]?).getD s:=⟨_,rfl⟩
  have H:rj z k= !yG z.af.length k s p x:=by simp only[rj,U,hp,Option.getD_some, <- N]
  have J:rj z k=false->aliases z=false:=λW=>by rw[G,eZ I W]
  have T:k+1<z.af.length->z.af[k+1]? =some x:=λK=>by rw[N,ao K];rfl
  clear N;have V:=wrap_add (k:=k) (by omega);refine⟨aB k,an s,aL U,M ?_⟩
  repeat' (first
   |(refine bJ<|M ?_)
   |(refine ak rfl ?_;show AV.d (D.bool false)=_;(try simp only[au]at *);rw[J<|by rw[H];simp only[yG, *, if_true,if_false,aX]];done)
   |(refine⟨k+1,⟨by omega,?_⟩,by(show z.af.length-(k+1)<z.af.length-k;omega),aI.keep⟩;rw[eD,j,H];((try simp only[au]at *);simp only[yG, *, if_true,if_false,aX];done))
   |(rw[V];(refine aD ?_ ?_<;>intro h))
   |(refine aD ?_ ?_<;>intro h)
   |(refine⟨(po (by assumption)<|by omega).1,an p,nB (by assumption) (by omega) hp,M ?_⟩)
   |(rw[V];refine⟨by omega,an x,XF<|by have K:= ‹decide (((k:Nat):Int)+1<_)=true›;exact T<|by simp at K;omega,M ?_⟩)
   |fail)
 . (refine ak rfl ?_;obtain rfl:k=z.af.length:=(by simp at h1;omega);show AV.d (D.bool true)=_;rw[G,j])
def Nq(z:ax)(b:List Bs)(W:z.af.length<=100000)(U:b.length=z.af.length):NQ.Fn cx 148 [.agg<|vP z b] (.d<|.bool<|sK z b) []:=by
 refine bL bf mixed Tryz.func148 ?_;have G:sK z b=(List.range z.af.length).all (cutAt z b):=rfl;refine⟨Nat,λk=>⟨[(1,.ptr 1 0),(9,.d<|.slice 5<|z.af.map an),(10,aj ((z.af.map an).length:Int)),(11,aj k)],[(1,.box<|(vP z b).map .d)]⟩,λk=>k<=z.af.length/\(List.range k).all (cutAt z b)=true,λk=>z.af.length-k,⟨0,⟨by omega,rfl⟩,aI.keep⟩,λk ⟨V,j⟩=>?_⟩;(conv=>whnf);refine aD ?_ ?_<;>intro h1
 .have I:k<z.af.length:=by simp at h1;omega
  obtain⟨s,K⟩:∃s,z.af[k]? =some s:=⟨_,ao I⟩
  obtain⟨x,N⟩:∃x,b[k]? =some x:=⟨_,ao<|by omega⟩
  have H:cutAt z b k= !qg s x:=by simp only[cutAt,K,N]
  have J:cutAt z b k=false->sK z b=false:=λT=>by rw[G,eZ I T]
  refine⟨aB k,an s,aL K,M ?_⟩
  repeat' (first
   |(refine bJ<|M ?_)
   |(refine ak rfl ?_;show AV.d (D.bool false)=_;(try simp only[au]at *);rw[J<|by rw[H];simp only[qg, *, if_true,if_false,aX]];done)
   |(refine⟨k+1,⟨by omega,?_⟩,by(show z.af.length-(k+1)<z.af.length-k;omega),aI.keep⟩;rw[eD,j,H];((try simp only[au]at *);simp only[qg, *, if_true,if_false,aX];done))
   |(refine⟨aB k,cK x,aL N,M ?_⟩)
   |(refine aD ?_ ?_<;>intro h)
   |fail)
 . (refine ak rfl ?_;obtain rfl:k=z.af.length:=(by simp at h1;omega);show AV.d (D.bool true)=_;rw[G,j])
def Oh(z:ax)(b:List Bs)(W:z.af.length<=100000)(U:b.length=z.af.length):NQ.Fn cx 149 [.agg<|vP z b] (.d<|.bool<|yf z b) []:=by
 refine bL bf mixed Tryz.func149 ?_;have G:yf z b=(List.range z.af.length).all (yd z b):=rfl;refine⟨Nat,λk=>⟨[(1,.ptr 1 0),(9,.d<|.slice 5<|z.af.map an),(10,aj ((z.af.map an).length:Int)),(11,aj k)],[(1,.box<|(vP z b).map .d)]⟩,λk=>k<=z.af.length/\(List.range k).all (yd z b)=true,λk=>z.af.length-k,⟨0,⟨by omega,rfl⟩,aI.keep⟩,λk ⟨V,j⟩=>?_⟩;(conv=>whnf);refine aD ?_ ?_<;>intro h1
 .have I:k<z.af.length:=by simp at h1;omega
  obtain⟨s,K⟩:∃s,z.af[k]? =some s:=⟨_,ao I⟩
  obtain⟨x,N⟩:∃x,b[k]? =some x:=⟨_,ao<|by omega⟩
  have H:yd z b k= !sf s x:=by simp only[yd,K,N]
  have J:yd z b k=false->yf z b=false:=λT=>by rw[G,eZ I T]
  refine⟨aB k,an s,aL K,M ?_⟩
  repeat' (first
   |(refine bJ<|M ?_)
   |(refine ak rfl ?_;show AV.d (D.bool false)=_;(try simp only[au]at *);rw[J<|by rw[H];simp only[sf, *, if_true,if_false,aX]];done)
   |(refine⟨k+1,⟨by omega,?_⟩,by(show z.af.length-(k+1)<z.af.length-k;omega),aI.keep⟩;rw[eD,j,H];((try simp only[au]at *);simp only[sf, *, if_true,if_false,aX];done))
   |(refine⟨aB k,cK x,aL N,M ?_⟩)
   |(refine aD ?_ ?_<;>intro h)
   |fail)
 . (refine ak rfl ?_;obtain rfl:k=z.af.length:=(by simp at h1;omega);show AV.d (D.bool true)=_;rw[G,j])
def Kh(z:ax)(b:List Bs)(U:z.af.length<=100000):NQ.Fn cx 150 [.agg<|vP z b] (.d<|.bool<|xA z) []:=by
 refine bL bf mixed Tryz.func150 ?_;have G:xA z=(List.range z.af.length).all (sP z):=rfl;refine⟨Nat,λk=>⟨[(1,.ptr 1 0),(8,.d<|.slice 5<|z.af.map an),(9,aj ((z.af.map an).length:Int)),(10,aj k)],[(1,.box<|(vP z b).map .d)]⟩,λk=>k<=z.af.length/\(List.range k).all (sP z)=true,λk=>z.af.length-k,⟨0,⟨by omega,rfl⟩,aI.keep⟩,λk ⟨T,j⟩=>?_⟩;(conv=>whnf);refine aD ?_ ?_<;>intro h1
 .have I:k<z.af.length:=by simp at h1;omega
  obtain⟨s,K⟩:∃s,z.af[k]? =some s:=⟨_,ao I⟩
  have H:sP z k= !(!nC s.sigs z.ag):=by simp only[sP,K,Ic]
  have J:sP z k=false->xA z=false:=λN=>by rw[G,eZ I N]
  refine⟨aB k,an s,aL K,M ?_⟩
  repeat' (first
   |(refine bJ<|M ?_)
   |(refine ak rfl ?_;show AV.d (D.bool false)=_;(try simp only[au]at *);rw[J<|by rw[H];simp only[sP, *, if_true,if_false,aX]];done)
   |(refine⟨k+1,⟨by omega,?_⟩,by(show z.af.length-(k+1)<z.af.length-k;omega),aI.keep⟩;rw[eD,j,H];((try simp only[au]at *);simp only[sP, *, if_true,if_false,aX];done))
   |(refine⟨_,_,TT s.sigs z.ag,M ?_⟩)
   |(refine aD ?_ ?_<;>intro h)
   |fail)
 . (refine ak rfl ?_;obtain rfl:k=z.af.length:=(by simp at h1;omega);show AV.d (D.bool true)=_;rw[G,j])
def eS(ag:Bs)(s:Signed):Bool:=(s.set.type==2)&& !(s.set.name==ag)
def mA(ag:Bs):List Signed->List (Bs×D)->List (Bs×D)
 |[],m=>m
 |s::t,m=>mA ag t (if eS ag s=true then cy s.set.name (.bool true) m else m)
def ij(ag:Bs)(l:List Signed)(n:Bs):Bool:=l.any λs=>eS ag s&&(s.set.name==n)
def tk(k n:Bs)(v:D):∀m,bH n (cy k v m)=if n=k then some v else bH n m
 |[]=>by simp only[cy,bH]
 |(G,I)::t=>by
  simp only[cy];by_cases h:k=G
  .subst h;simp only[if_true,bH];by_cases j:n=k<;>simp only[j,if_true,if_false]
  .simp only[h,if_false,bH,tk k n v t];by_cases j:n=G
   .subst j;have H:¬n=k:=λe=>h e.symm
    simp only[if_true,H,if_false]
   .simp only[j,if_false]
def Bp(ag n:Bs):∀(l:List Signed) (m:List<|Bs×D),bH n (mA ag l m)=if ij ag l n=true then some (.bool true)else bH n m
 |[],m=>by simp[mA,ij]
 |s::t,m=>by
  rw[mA,Bp ag n t];by_cases h:eS ag s=true
  .rw[if_pos h,tk];by_cases j:n=s.set.name
   .subst j;simp[ij,h]
   .have G :(s.set.name==n)=false:=by simpa using λe=>j e.symm
    simp only[j,if_false,ij,List.any_cons,h,G,kW,iI]
  .have h' :eS ag s=false:=by simpa using h
   simp only[ij,List.any_cons,h',pW,iI,eV,if_false]
def mL(cut:Bs->Bool)(c n:Bs):Bs :=
 let j :=if (!(c==[])&& !(bD n c).1)=true then[]else c
 if ((j ==[])&&cut n)=true then n else j
def bh(cut:Bs->Bool):Bs->List Signed->List Bs
 |_,[]=>[]
 |c,s::t=>mL cut c s.set.name::bh cut (mL cut c s.set.name) t
def dD(z:ax):List Bs:=bh (ij z.ag z.af) [] z.af
def yJ(cut:Bs->Bool):∀(c:Bs) (l:List Signed),(bh cut c l).length=l.length
 |_,[]=>rfl
 |c,s::t=>by simp[bh,yJ cut _ t]
def aaC(done:List Bs)(n:Nat)(c:Bs):(done++List.replicate (n+1) []).set done.length c=(done++[c])++List.replicate n []:=by
 rw[List.replicate_succ,List.set_append];simp
def Bq(ag:Bs)(s:Signed):∀(l:List Signed) (m:List<|Bs×D),mA ag (l++[s]) m=if eS ag s=true then cy s.set.name (.bool true) (mA ag l m)else mA ag l m
 |[],m=>rfl
 |x::t,m=>by rw[List.cons_append,mA,mA,Bq ag s t]
def cj{l:List α}{x:α}(h:l[k]? =some x):l.take (k+1)=l.take k++[x]:=by
 rw[List.take_add_one,h];rfl
def Uu{b:Bool}(h:(!b)=false)(h' :b=false):False:=by subst h';cases h
def Ui(z:ax)(hn:z.af.length<=100000):NQ.Fn cx 146 [.agg<|aV z] (.agg<|(vP z<|dD z).map .d) []:=by
 refine bL bf mixed Tryz.func146 ?_
 refine ⟨Nat, fun k => ⟨[(1, .ptr 1 0), (2, .ptr 2 0), (3, .omap 13), (16, .d<|.slice 5<|z.af.map an), (17, aj ((z.af.map an).length : Int)), (18, aj k)],
     [(1,.box<|(aV z).map .d),(2,.box [.d<|.str [],.nil 5,.nil 1]),(13,.smap<|mA z.ag (z.af.take k) [])]⟩,
  λk=>k<=z.af.length,λk=>z.af.length-k,⟨0,by omega,aI.keep⟩,λk X=>M ?_⟩
 refine aD ?_ ?_<;>intro h1
 .have D:k<z.af.length:=by simp at h1;omega
  obtain⟨s,T⟩:∃s,z.af[k]? =some s:=⟨_,ao D⟩
  refine⟨aB k,an s,aL T,M ?_⟩
  have Z:=Bq z.ag s (z.af.take k) [];rw[<- cj T]at Z
  repeat' (first
   |(refine bJ<|M ?_)
   |(refine⟨k+1,D,by(show z.af.length-(k+1)<z.af.length-k;omega),aI.keep ⟨ae,ae,ae,ae,ae,⟨bj<|by omega,rfl⟩,trivial⟩ ⟨ae,ae,⟨?_,rfl⟩,trivial⟩⟩;show some (Blk.smap _)=some (Blk.smap _);rw[Z];simp only[eS, *, if_true,if_false,aX];done)
   |(refine aD ?_ ?_<;>intro h)
   |fail)
 .obtain rfl:k=z.af.length:=by simp at h1;omega
  (refine bJ<|M ?_)
  refine⟨by omega,.inl rfl,by omega,by(simp only[au];omega),by(simp only[au];omega),M ?_⟩
  refine ⟨Nat × Bs × List Bs, fun x => ⟨[(1, .ptr 1 0), (2, .ptr 2 0), (3, .omap 13), (6, .ptr 6 0), (7, .d<|.str x.2.1), (49, .d<|.slice 5<|z.af.map an), (50, aj ((z.af.map an).length : Int)), (51, aj x.1)],
      [(1,.box<|(aV z).map .d),(2,.box [.d<|.str [],.nil 5,.nil 1]),(13,.smap<|mA z.ag z.af []),(45,.row 9 1 ((x.2.2++List.replicate (z.af.length-x.1) []).map cK) true),(6,.box [.d<|.str z.ag,.d<|.slice 5<|z.af.map an,.own 45])]⟩,
   λx=>x.1<=z.af.length/\x.2.2.length=x.1/\x.2.2++bh (ij z.ag z.af) x.2.1 (z.af.drop x.1)=dD z,λx=>z.af.length-x.1,
   ⟨(0,[],[]),⟨by simp,rfl,rfl⟩,aI.keep ⟨ae,ae,ae,ae,ae,ae,ae,ae,trivial⟩ ⟨ae,ae,⟨by(show some (Blk.smap<|mA z.ag (z.af.take z.af.length) [])=_;rw[List.take_length]),rfl⟩,⟨by(show some (Blk.row _ _ (List.replicate ((z.af.map an).length:Int).toNat _) true)=some (Blk.row _ _ _ true);simp[cK];done),rfl⟩,ae,trivial⟩⟩,?_⟩
  rintro⟨k,c,done⟩ ⟨X,J,j⟩;simp only at X J j;conv=>whnf
  refine aD ?_ ?_<;>intro h1
  .have D:k<z.af.length:=by simp at h1;omega
   obtain⟨s,T⟩:∃s,z.af[k]? =some s:=⟨_,ao D⟩
   refine⟨aB k,an s,aL T,M ?_⟩
   have V:z.af.drop k=s::z.af.drop (k+1):=by
    obtain⟨hl,he⟩:=aA.mp T;rw[List.drop_eq_getElem_cons D,he]
   have N:k<((done++List.replicate (z.af.length-k) []).map cK).length:=by simp;omega
   have K:List.replicate (z.af.length-k) ([]:Bs)=List.replicate ((z.af.length-(k+1))+1) []:=by congr 1;omega
   have G:∀H,((done++List.replicate (z.af.length-k) []).map cK).set k (cK H)=((done++[H])++List.replicate (z.af.length-(k+1)) []).map cK:=λH =>by
    rw[K, <- aaC done _ H,List.map_set,J]
   rw[V,bh]at j;have I:∀H,mL (ij z.ag z.af) c s.set.name=H ->(done++[H])++bh (ij z.ag z.af) H (z.af.drop<|k+1)=dD z:=λH e=>by
    rw[<- j,e,List.append_assoc];rfl
   have W:=Bp z.ag s.set.name z.af [];clear j X;obtain⟨q,hq⟩:∃q,ij z.ag z.af s.set.name=q:=⟨_,rfl⟩
   rw[hq]at W;have U:(⟨#[]⟩:ByteArray).data.toList=[]:=rfl;have Y:((done++List.replicate (z.af.length-k) []).map cK)[k]? =some (cK []):=by
    rw[bc,cL<|by omega,List.getElem?_replicate,if_pos<|by omega];rfl
   repeat' (first
    |(refine⟨_,_,pd _ _,M ?_⟩)
    |(refine bJ<|M ?_)
    |(refine aD ?_ ?_<;>intro h)
    |(rcases q with _|_<;>((try simp only[eV,if_false,if_true,bH]at W);rw[W];conv=>whnf))
    |exact(Uu (b:=c==[]) (by assumption)<|by assumption).elim
    |(refine⟨aB k,N,M ?_⟩)
    |(refine⟨_,Y,M ?_⟩)
    |(refine⟨(k+1,c,done++[c]),⟨D,by simp[J],I _<|by(try simp only[U]at *);simp only[mL, *, if_true,if_false,aX,beq_self_eq_true];done⟩,by(show z.af.length-(k+1)<z.af.length-k;omega),aI.keep ⟨ae,ae,ae,ae,ae,ae,ae,⟨bj<|by omega,rfl⟩,trivial⟩ ⟨ae,ae,ae,⟨by(show some (Blk.row _ _ (List.set _ k<|cK<|c) true)=some (Blk.row _ _ _ true);rw[G]),rfl⟩,ae,trivial⟩⟩;done)
    |(refine⟨(k+1,[],done++[[]]),⟨D,by simp[J],I _<|by(try simp only[U]at *);simp only[mL, *, if_true,if_false,aX,beq_self_eq_true];done⟩,by(show z.af.length-(k+1)<z.af.length-k;omega),aI.keep ⟨ae,ae,ae,ae,ae,ae,ae,⟨bj<|by omega,rfl⟩,trivial⟩ ⟨ae,ae,ae,⟨by(show some (Blk.row _ _ (List.set _ k<|cK<|[]) true)=some (Blk.row _ _ _ true);rw[G]),rfl⟩,ae,trivial⟩⟩;done)
    |(refine⟨(k+1,s.set.name,done++[s.set.name]),⟨D,by simp[J],I _<|by(try simp only[U]at *);simp only[mL, *, if_true,if_false,aX,beq_self_eq_true];done⟩,by(show z.af.length-(k+1)<z.af.length-k;omega),aI.keep ⟨ae,ae,ae,ae,ae,ae,ae,⟨bj<|by omega,rfl⟩,trivial⟩ ⟨ae,ae,ae,⟨by(show some (Blk.row _ _ (List.set _ k<|cK<|s.set.name) true)=some (Blk.row _ _ _ true);rw[G]),rfl⟩,ae,trivial⟩⟩;done)
    |fail)
  .refine ak rfl ?_;obtain rfl:k=z.af.length:=by simp at h1;omega
   simp only[List.drop_length,bh,List.append_nil]at j;show AV.agg [_,_,AV.d<|.slice 1<|(done++List.replicate (z.af.length-z.af.length) []).map cK]=_
   rw[Nat.sub_self,List.replicate_zero,List.append_nil,j];rfl
def xj:jP dI where
 range:=λa b=>by unfold dI;(repeat' split)<;>omega
 zero:=λa b=>by unfold dI;(repeat' split)<;>omega
 lE:=λa b=>by unfold dI;(repeat' split)<;>omega
 lt:=λa b c=>by unfold dI;(repeat' split)<;>omega
def bI:jP bl where
 range:=λa b=>qL.range _ _
 zero:=λa b=>⟨λh=>Ce<|(qL.zero _ _).1 h,λh=>by subst h;exact(qL.zero _ _).2 rfl⟩
 lE:=λa b=>qL.lE _ _
 lt:=λa b c=>qL.lt _ _ _
def lex{α β:Type}(c:α->α->Int)(e:β->β->Int)(p q:α×β):Int:=if c p.1 q.1=0 then e p.2 q.2 else c p.1 q.1
def FH{β:Type}{c:α->α->Int}{e:β->β->Int}(j:jP c)(H:jP e):jP (lex c e) where
 range:=λa b=>by unfold lex;split;exact H.range _ _;exact j.range _ _
 zero:=λa b=>by
  unfold lex;split
  .rename_i h;rw[H.zero,Prod.ext_iff];exact⟨λk=>⟨(j.zero _ _).1 h,k⟩,λk=>k.2⟩
  .rename_i h;exact⟨λk=>absurd k h,λk=>absurd ((j.zero _ _).2<|by rw[k]) h⟩
 lE:=λa b=>by
  unfold lex;rw[j.lE a.1 b.1];by_cases h:c a.1 b.1=0
  .rw[if_pos h,if_pos<|by omega,H.lE]
  .rw[if_neg h,if_neg<|by omega]
 lt:=λa b d=>by
  unfold lex;intro h1 D;by_cases I:c a.1 b.1=0
  .have J:=(j.zero _ _).1 I;rw[if_pos I]at h1;rw[J];by_cases G:c b.1 d.1=0
   .rw[if_pos G]at D ⊢;exact H.lt _ _ _ h1 D
   .rw[if_neg G]at D ⊢;exact D
  .rw[if_neg I]at h1;by_cases G:c b.1 d.1=0
   .have K:=(j.zero _ _).1 G;rw[<- K,if_neg I];exact h1
   .rw[if_neg G]at D;have N:=j.lt _ _ _ h1 D;rw[if_neg<|by omega];exact N
abbrev cpl:Bs×Int->Bs×Int->Int:=lex bl dI
def lH:jP cpl:=FH bI xj
variable {a b:Bs}
def Ch(s t:Int)(j:aR a=true)(D:aR b=true):uJ a s b t=cpl (a,s) (b,t):=by
 unfold uJ cpl lex dE;simp only[j,D,and_self,if_true,bI.zero]
def Signed.place(s:Signed):Bs×Int:=(s.set.name,s.set.type)
def bO.place(q:bO):Bs×Int:=(q.name,q.type)
def fo:List Signed->Prop
 |[]=>True
 |[_]=>True
 |a::b::t=>cpl a.place b.place<0/\fo (b::t)
def ab9{a b c:Bs×Int}(h1:0<=cpl a c)(j:cpl a b<0):0<=cpl b c:=by
 rcases lH.range b c with h|h|h
 .rcases lH.range a b with k|k|k
  .have:=lH.lt a b c k h;omega
  .omega
  .omega
 .omega
 .omega
def Hh{q:Bs×Int}:∀{l:List Signed} {x:Signed},fo (x::l)->0<=cpl x.place q-> ∀s∈l,0<=cpl s.place q
 |[],_,_,_,s,j=>by cases j
 |y::t,x,h,G,s,j=>by
  have D:=ab9 G h.1;rcases List.mem_cons.1 j with rfl|j
  .exact D
  .exact Hh h.2 D s j
def pQ:∀{l:List Signed} {x:Signed},fo (x::l)-> ∀s∈l,cpl x.place s.place<0
 |[],_,_,s,j=>by cases j
 |y::t,x,h,s,j=>by
  rcases List.mem_cons.1 j with rfl|j
  .exact h.1
  .have h1:=pQ h.2 s j;have D:=h.1;rcases lH.range x.place y.place with a|a|a<;>rcases lH.range y.place s.place with b|b|b<;>first|omega|skip
   have:=lH.lt _ _ _ a b;omega
def fo.tail{x:Signed}:∀{l:List Signed},fo (x::l)->fo l
 |[],_=>trivial
 |_::_,h=>h.2
def posOf(l:List Signed)(q:bO):Nat:=(l.takeWhile λs=>decide<|cpl s.place q.place<0).length
def is(q:bO)(s:Signed):Bool:=(s.set.name==q.name)&&(s.set.type==q.type)
def dG(l:List Signed)(q:bO):Bool:=l.any<|is q
def wA(q:bO)(s:Signed):is q s=true ↔ s.place=q.place:=by
 simp[is,Signed.place,bO.place]
variable {q:bO}
def Le(D:aR s.set.name=true)(j:aR q.name=true):plc s q=cpl s.place q.place:=Ch _ _ D j
def CJ(q:bO)(K:aR q.name=true):∀(l:List Signed),fo l->(∀s∈l,aR s.set.name=true)->Split l q (posOf l q)/\foundAt l q (posOf l q)=dG l q
 |[],_,_=>⟨⟨Nat.le_refl _,λi s h=>(by cases h),λi s h=>(by cases h)⟩,rfl⟩
 |x::l,h,T=>by
  have Y:=Le (T x (List.mem_cons_self ..)) K;by_cases G:cpl x.place q.place<0
  .have hp:posOf (x::l) q=posOf l q+1:=by simp[posOf,List.takeWhile_cons,G]
   obtain⟨⟨h1,V,W⟩,U⟩:=CJ q K l h.tail λs j=>T s<|aZ _ j
   rw[hp];refine⟨⟨by simp;exact h1,?_,?_⟩,?_⟩
   .intro i s j D;cases i with
    |zero=>cases j;omega
    |succ i=>exact V i s j (by omega)
   .intro i s j D;cases i with
    |zero=>omega
    |succ i=>exact W i s j (by omega)
   .have J:is q x=false:=by
     cases D:is q x with
     |false=>rfl
     |true=>rw[(wA q x).1 D,(lH.zero _ _).2 rfl]at G;omega
    unfold foundAt at U ⊢;rw[List.getElem?_cons_succ,U];simp[dG,J]
  .have hp:posOf (x::l) q=0:=by simp[posOf,List.takeWhile_cons,G]
   have H:0<=cpl x.place q.place:=by omega
   rw[hp];refine⟨⟨by omega,λi s _ D=>by omega,?_⟩,?_⟩
   .intro i s j _;have I:=aw j;rw[Le (T s I) K];rcases List.mem_cons.1 I with rfl|I
    .exact H
    .exact Hh h H s I
   .show(plc x q==0)=_
    rw[Y];have X:(cpl x.place q.place==0)=is q x:=by
     rw[Bool.eq_iff_iff,beq_iff_eq,lH.zero,wA]
    rw[X];cases D:is q x with
    |true=>simp[dG,D]
    |false =>
     have:dG l q=false:=by
      simp only[dG,List.any_eq_false];intro s j N;have h1:=pQ h s j;rw[(wA q s).1 N]at h1;omega
     simp only[dG,List.any_cons,D,iI]at this ⊢;exact this.symm
structure Ordered(z:ax):Prop where
 ag:aR z.ag=true
 Yq:nc z.ag=false
 few:z.af.length<=20000
 set:∀s∈z.af,eE s.set=true
 under:∀s∈z.af,(bD s.set.name z.ag).1=true
 rising:fo z.af
def yc{s:cH}(h:eE s=true):aR s.name=true:=by
 unfold eE at h;simp only[aK,Bool.not_eq_true',Bool.or_eq_false_iff,Bool.not_eq_false']at h;exact h.1.1.1.1.1
def Hi:∀(l:List Signed),(∀s∈l,aR s.set.name=true)->(∀i p s,l[i]? =some p->l[i+1]? =some s->uJ p.set.name p.set.type s.set.name s.set.type<0)->fo l
 |[],_,_=>trivial
 |[_],_,_=>trivial
 | a :: b :: t, D, h => ⟨by
     have:=h 0 a b rfl rfl
     rwa [Ch _ _ (D a<|by simp)<|D b<|by simp]at this,Hi (b::t) (λs j=>D s<|aZ _ j) λi p s hp j=>h (i+1) p s hp j⟩
def Ordered.of(h:ordered z=true):Ordered z:=by
 unfold ordered at h;simp only[aK,Bool.not_eq_true',Bool.or_eq_false_iff,Bool.not_eq_false',decide_eq_false_iff_not,aG,List.mem_range]at h;obtain⟨⟨⟨h1,I⟩,K⟩,J⟩:=h;have G:∀(i:Nat) s p,z.af[i]? =some s->z.af[i-1]? =some p->rZ z.ag i s p=false:=by
  intro i s p j hp;have:=J i (aA.1 j).1;rw[CD j hp]at this;simpa using this
 have D:∀s∈z.af,eE s.set=true/\(bD s.set.name z.ag).1=true:=by
  intro s j;obtain⟨i,H⟩:=cO j;obtain⟨N,_⟩:=aA.1 H;obtain⟨p,hp⟩:∃p,z.af[i-1]? =some p:=⟨_,ao<|by omega⟩
  have:=G i s p H hp;unfold rZ at this;simp only[Bool.or_eq_false_iff,Bool.not_eq_false']at this;exact⟨this.1.1,this.1.2⟩
 refine⟨h1,I,by omega,λs j=>(D s j).1,λs j=>(D s j).2,Hi _ (λs j=>yc (D s j).1) ?_⟩;intro i p s hp j;have:=G (i+1) s p j hp;unfold rZ at this;simp only[Bool.or_eq_false_iff,Bool.not_eq_false',Bool.and_eq_false_iff,decide_eq_false_iff_not,beq_iff_eq]at this;rcases this.2 with k|k
 .omega
 .omega
def Ordered.name(h:Ordered z):∀s∈z.af,aR s.set.name=true:=λs j=>yc<|h.set s j
def aW(z:ax):Bool:=ordered z&&rl (λt=>dG z.af ⟨z.ag,t⟩) z&&(aliases z&&sK z (dD z)&&yf z (dD z)&&xA z)
def eO(q:bO):Bool:=aR q.name&&decide (q.type>=1)&&decide (q.type<=8)
def Fx(h:Ordered z)(q:bO)(D:aR q.name=true) :
 NQ.Fn cx 142 [.agg<|aV z,.agg<|eY q] (.tuple [aj<|posOf z.af q,.d<|.bool<|dG z.af q]) []:=by
 obtain⟨h1,j⟩:=CJ q D z.af h.rising h.name;have:=ZH z q (posOf z.af q) (by have:=h.few;omega) h1
 rwa [j]at this
def jI(z:ax):NQ.Fn cx 95 [.agg<|aV z] (.d<|.bool<|aW z) []:=by
 refine bL bf mixed Tryz.func95 ?_
 (refine⟨_,_,Ry z,M ?_⟩)
 (refine aD ?_ ?_<;>intro h)
 . (refine ak rfl ?_;show AV.d (D.bool false)=_;(try simp only[Bool.not_eq_true',Bool.not_eq_false',au]at *);simp only[aW, *, if_true,if_false,aX];done)
 have G:Ordered z:=Ordered.of (by simpa using h);have j:z.af.length<=100000:=by have:=G.few;omega
 have H:(dD z).length=z.af.length:=yJ _ _ _
 (refine⟨_,_,Jm z j _ _ λt=>Fx G ⟨z.ag,t⟩ G.ag,M ?_⟩)
 (refine aD ?_ ?_<;>intro h)
 . (refine ak rfl ?_;show AV.d (D.bool false)=_;(try simp only[Bool.not_eq_true',Bool.not_eq_false',au]at *);simp only[aW, *, if_true,if_false,aX];done)
 (refine⟨_,_,Ui z j,M ?_⟩)
 have I:aW z=(aliases z&&sK z (dD z)&&yf z (dD z)&&xA z):=by
  simp only[Bool.not_eq_false']at *;simp only[aW, *, if_true,if_false,aX]
 (refine⟨_,_,Fc z _ j,M ?_⟩)
 repeat' (first|(refine⟨_,_,Nq z _ j H,M ?_⟩)|(refine⟨_,_,Oh z _ j H,M ?_⟩)|(refine⟨_,_,Kh z _ j,M ?_⟩)|(refine bJ<|M ?_)|(refine aD ?_ ?_<;>intro h)|fail)
 all_goals first
  |(refine ak rfl ?_;show AV.d (D.bool false)=_;rw[I];simp only[*, if_true,if_false,aX];done)
  |(refine ak rfl ?_;show AV.d (D.bool<|xA z)=_;rw[I];simp only[*, if_true,if_false,aX];done)
  |fail
def BC{s:Bs}(h:aR s=true):cu (fg s)=(cu s).tail:=vO<|DX (List.tail_suffix _)<|vt h
def nH{s:Bs}(h:aR s=true):aR (fg s)=true:=LO (List.tail_suffix _) h
variable {n:Bs}
def yo{z:Bs}(H:aR n=true)(h:bd n z=true)(D:n≠z):n≠[46]/\bd (fg n) z=true/\(cu<|fg n).length+1=(cu n).length:=by
 unfold bd at h ⊢;rw[BC H];have G:=List.isSuffixOf_iff_suffix.1 h;cases j:cu n with
 |nil =>
  rw[j]at G;have:cu z=[]:=List.suffix_nil.1 G;exact absurd (CA<|by rw[j,this]) D
 |cons x t =>
  rw[j]at G;refine⟨λe=>by rw[e]at j;simp[cu]at j,?_,by simp⟩;rcases List.suffix_cons_iff.1 G with k|k
  .exact absurd (CA<|by rw[j,k]) D
  .exact List.isSuffixOf_iff_suffix.2 k
variable {l:List Signed}
def WK{c:Nat}(h:foundAt l q c=true):∃s,l[c]? =some s/\plc s q=0:=by
 unfold foundAt at h;split at h
 .rename_i s j;exact⟨s,j,by simpa using h⟩
 .cases h
def WL(j:Ordered z)(H:aR q.name=true)(h:dG z.af q=true):∃s,z.af[posOf z.af q]? =some s/\s∈z.af/\s.place=q.place:=by
 obtain⟨_,D⟩:=CJ q H z.af j.rising j.name;rw[h]at D;obtain⟨s,I,hp⟩:=WK D;have G:=aw I;exact⟨s,I,G,(lH.zero _ _).1<|by rw[<- Le (j.name s G) H];exact hp⟩
def bt(h:aW z=true):Ordered z:=by
 unfold aW at h;simp only[aK]at h;exact Ordered.of h.1.1
def vi{s:cH}(h:eE s=true):∃d,s.data[0]? =some d:=by
 unfold eE at h;simp only[aK,Bool.not_eq_true',Bool.or_eq_false_iff,Bool.not_eq_false']at h;have h1:=h.1.1.2;unfold within at h1;simp at h1;exact⟨_,ao<|by omega⟩
def gp(z:ax):Int:=match z.af[posOf z.af ⟨z.ag,4⟩]? with|some s=>(match s.set.data[0]? with|some d=>d.n|none=>0)|none=>0
def jL(z:ax):Int×Int:=if (!aW z)=true then(0,1)else(gp z,0)
def rq(z:ax):Nat->Bs->Option Bs
 |0,_=>none
 |f+1,n=>if n=z.ag then none else if dG z.af ⟨n,2⟩=true then some n else rq z f<|fg n
def yV(z:ax)(s:Bs):Option Bs:=rq z ((cu s).length+1) s
def gO(z:ax)(s:Bs):Bs×Bool×Int :=
 if (!aR s|| !aW z)=true then([],false,1)else if (!(bD s z.ag).1)=true then([],false,20)
 else match yV z s with|some c=>(c,true,0)|none=>([],false,0)
def Hk(z:ax):NQ.Fn cx 99 [.agg<|aV z] (.tuple [.d<|.int .i64 (jL z).1,.d<|.int .i64 (jL z).2]) []:=by
 refine bL bf mixed Tryz.func99 ?_
 (refine⟨_,_,jI z,M ?_⟩)
 (refine aD ?_ ?_<;>intro h)
 .refine ak rfl ?_;rw[jL,if_pos h];rfl
 have D:aW z=true:=by simpa using h
 have j:=bt D
 (refine⟨_,_,Fx j ⟨z.ag,4⟩ j.ag,M ?_⟩)
 have I:dG z.af ⟨z.ag,4⟩=true:=by
  unfold aW rl at D;simp only[aK]at D;exact D.1.2.1.1
 obtain⟨s,H,J,_⟩:=WL j (q:=⟨z.ag,4⟩) j.ag I;obtain⟨d,G⟩:=vi<|j.set s J;refine⟨aB _,an s,aL H,M ?_⟩
 refine⟨by decide,aS d,aL (k:=0) G,M ?_⟩
 refine ak rfl ?_;rw[jL,if_neg<|by simp[D]];simp only[gp,H,G];rfl
def Tp(z:ax)(s:Bs):NQ.Fn cx 92 [.agg<|aV z,.str s] (.tuple [.d<|.str (gO z s).1,.d<|.bool (gO z s).2.1,.d<|.int .i64 (gO z s).2.2]) []:=by
 refine bL bf mixed Tryz.func92 ?_
 (refine⟨_,_,ng s,M ?_⟩)
 (refine aD ?_ ?_<;>intro h)
 .refine ak rfl ?_;rw[gO,h];rfl
 (refine⟨_,_,jI z,M ?_⟩)
 (refine aD ?_ ?_<;>intro h)
 .refine ak rfl ?_;rw[gO,if_pos<|by simp only[*, if_true,if_false,aX]];rfl
 have G:aR s=true:=by simp only[Bool.not_eq_false']at *; assumption
 have W:aW z=true:=by simp only[Bool.not_eq_false']at *; assumption
 have N:=bt W;have h0:¬(!aR s|| !aW z)=true:=by simp[G,W]
 (refine⟨_,_,pd s z.ag,M ?_⟩)
 (refine aD ?_ ?_<;>intro h)
 .refine ak rfl ?_;rw[gO,if_neg h0,if_pos<|by assumption];rfl
 have J:bD s z.ag=(true,0):=by
  have K:(bD s z.ag).1=true:=by simp only[Bool.not_eq_false']at *; assumption
  unfold bD at K ⊢;rw[if_pos ⟨G,N.ag⟩]at K ⊢;rw[show bd s z.ag=true from K]
 have V:gO z s=(match yV z s with|some c=>(c,true,0)|none=>([],false,0)):=by
  rw[gO,if_neg h0,J];rfl
 have T:bd s z.ag=true:=by
  unfold bD at J;rw[if_pos ⟨G,N.ag⟩]at J;exact(Prod.mk.inj J).1
 refine⟨Bs,λn=>⟨[(2,.ptr 2 0),(9,.ptr 9 0),(10,.d<|.str n)],[(2,.box<|(aV z).map .d),(9,.box<|(aV z).map .d)]⟩,
  λn=>aR n=true/\bd n z.ag=true/\rq z ((cu n).length+1) n=yV z s,λn=>(cu n).length,
  ⟨s,⟨G,T,rfl⟩,aI.keep⟩,λn ⟨D,X,H⟩=>M ?_⟩
 refine aD ?_ ?_<;>intro h1
 .have j:n≠z.ag:=by simpa using h1
  obtain⟨Y,Z,k3⟩:=yo D X j;rw[rq,if_neg j]at H
  (refine⟨_,_,Fx N ⟨n,2⟩ D,M ?_⟩)
  refine aD ?_ ?_<;>intro U
  .refine ak rfl ?_;rw[if_pos U]at H;rw[V, <- H];rfl
  .rw[if_neg<|by rw[U];exact Bool.false_ne_true, <- k3]at H;have hp:iR n=(fg n,0):=by unfold iR;rw[if_pos D,if_neg Y]
   have I:=Gl n;rw[hp]at I
   (refine⟨_,_,I,M ?_⟩)
   exact⟨fg n,⟨nH D,Z,H⟩,by(show(cu<|fg n).length<(cu n).length;omega),aI.keep⟩
 .have j:n=z.ag:=by simpa using h1
  rw[rq,if_pos j]at H;refine ak rfl ?_;rw[V, <- H];rfl
def kL(l:List Bs):Bs:=(l[l.length-1]?).getD []
def rY(n b:Bs):Bool:= !(b==[])&& !(b==n)
def ui(acc:List Bs)(n:Bs):Bool:=((acc.length:Int)==0)|| !(kL acc==n)
def nam:List Bs->List (Signed×Bs)->List Bs
 |acc,[]=>acc
 |acc,(s,b)::t=>nam (if rY s.set.name b=true then acc else if ui acc s.set.name=true then acc++[s.set.name]else acc) t
def fU(z:ax):List Bs:=nam []<|z.af.zip<|dD z
def kN(z:ax):List Bs×Int:=if (!aW z)=true then([],1)else(fU z,0)
variable {acc:List Bs}
def FG(h:(((acc.map cK).length:Int)==0)=false):acc.length≠0:=by simp at h;simpa using h
def Xo(h:(((acc.map cK).length:Int)==0)=false):(acc.map cK)[((acc.length-1:Nat):Int).toNat]? =some (cK<|kL acc):=by
 have h' :=FG h;rw[Int.toNat_natCast,bc,kL,ao<|by omega];rfl
def Ug(j:acc.length<=100000)(h:(((acc.map cK).length:Int)==0)=false):IntKind.i64.wrap (((acc.map cK).length:Int)-1)=((acc.length-1:Nat):Int):=by
 have h' :=FG h;rw[au,wrap_i64 (by omega)<|by omega];omega
def ZY(h:(((acc.map cK).length:Int)==0)=false):((acc.length-1:Nat):Int).toNat<(acc.map cK).length:=by
 have h' :=FG h;simp;omega
def XB(z:ax):NQ.Fn cx 171 [.agg<|aV z] (.tuple [.d<|.slice 1<|(kN z).1.map cK,.d<|.int .i64 (kN z).2]) []:=by
 refine bL bf mixed Tryz.func171 ?_
 (refine⟨_,_,jI z,M ?_⟩)
 (refine aD ?_ ?_<;>intro h)
 .refine ak rfl ?_;rw[kN,if_pos h];rfl
 have K:aW z=true:=by simpa using h
 have Z:=bt K;have Y:z.af.length<=100000:=by have:=Z.few;omega
 have V:(dD z).length=z.af.length:=yJ _ _ _;have U:kN z=(fU z,0):=by rw[kN,if_neg<|by simp[K]]
 (refine⟨_,_,Ui z Y,M ?_⟩)
 refine ⟨Nat × List Bs, fun x => ⟨[(1, .ptr 1 0), (4, .ptr 4 0), (5, .own 100), (18, .d<|.slice 5<|z.af.map an), (19, aj ((z.af.map an).length : Int)), (20, aj x.1)],
     [(1,.box<|(aV z).map .d),(4,.box<|(vP z<|dD z).map .d),(100,.row 9 1<|x.2.map cK)]⟩,
  λx=>x.1<=z.af.length/\x.2.length<=x.1/\nam x.2 ((z.af.zip<|dD z).drop x.1)=fU z,λx=>z.af.length-x.1,
  ⟨(0,[]),⟨by simp,by simp,rfl⟩,(aI.kz 5 100 1 9 1 rfl rfl<|by decide).trans<|aI.keep⟩,?_⟩
 rintro⟨k,acc⟩ ⟨W,X,j⟩;simp only at W X j;conv=>whnf
 refine aD ?_ ?_<;>intro h1
 .have D:k<z.af.length:=by simp at h1;omega
  obtain⟨s,J⟩:∃s,z.af[k]? =some s:=⟨_,ao D⟩
  obtain⟨b,G⟩:∃b,(dD z)[k]? =some b:=⟨_,ao<|by omega⟩
  have H:(z.af.zip<|dD z).drop k=(s,b)::(z.af.zip<|dD z).drop (k+1):=by
   rw[List.drop_eq_getElem_cons<|by simp;omega]
   congr 1
   rw[List.getElem_zip];obtain⟨_,N⟩:=aA.1 J;obtain⟨_,T⟩:=aA.1 G;rw[N,T]
  rw[H,nam]at j;refine⟨aB k,an s,aL J,M ?_⟩
  have I:(⟨#[]⟩:ByteArray).data.toList=[]:=rfl;clear H V
  repeat' (first
   |(refine bJ<|M ?_)
   |(refine⟨(k+1,acc),⟨D,by(simp;omega),(by(try simp only[I,au]at *);simp only[rY,ui, *, if_true,if_false,aX]at j;exact j)⟩,by(show z.af.length-(k+1)<z.af.length-k;omega),aI.keep ⟨ae,ae,ae,ae,ae,⟨bj<|by omega,rfl⟩,trivial⟩ ⟨ae,ae,⟨by first|rfl|(show some (Blk.row _ _<|_++_)=some (Blk.row _ _ _);rw[List.map_append];rfl),rfl⟩,trivial⟩⟩;done)
   |(refine⟨(k+1,acc++[s.set.name]),⟨D,by(simp;omega),(by(try simp only[I,au]at *);simp only[rY,ui, *, if_true,if_false,aX]at j;exact j)⟩,by(show z.af.length-(k+1)<z.af.length-k;omega),aI.keep ⟨ae,ae,ae,ae,ae,⟨bj<|by omega,rfl⟩,trivial⟩ ⟨ae,ae,⟨by first|rfl|(show some (Blk.row _ _<|_++_)=some (Blk.row _ _ _);rw[List.map_append];rfl),rfl⟩,trivial⟩⟩;done)
   |(refine aD ?_ ?_<;>intro h)
   |(refine⟨aB k,cK b,aL G,M ?_⟩)
   |(rw[Ug (acc:=acc) (by omega)<|by assumption];refine⟨aB _,ZY (acc:=acc)<|by assumption,M ?_⟩)
   |(refine⟨_,Xo (acc:=acc)<|by assumption,M ?_⟩)
   |(refine⟨by(show(acc.map cK).length+1<=_;rw[au];omega),by(show((acc.map cK).length+1)*16<=_;rw[au];omega),M ?_⟩)
   |fail)
 .obtain rfl:k=z.af.length:=by simp at h1;omega
  refine ak rfl ?_;rw[List.drop_eq_nil_of_le<|by simp;omega,nam]at j;rw[U, <- j];rfl
def atI(l:List Signed)(q:bO):Int:=match l.findIdx? (is q)with|some k=>(k:Int)|none=> -1
def tv(l:List Signed)(q:bO):decide (atI l q<0)= !dG l q:=by
 unfold atI dG;cases h:l.findIdx? (is q)with
 |some k =>
  have:=List.findIdx?_eq_some_iff_getElem.1 h;obtain⟨j,h1,_⟩:=this;have:l.any (is q)=true:=List.any_eq_true.2 ⟨_,List.getElem_mem j,h1⟩;rw[this];simp
 |none =>
  have:=List.findIdx?_eq_none_iff.1 h;have:l.any (is q)=false:=by rw[List.any_eq_false];intro x D;rw[this x D];simp
  rw[this];simp
def uf(l:List Signed)(q:bO)(i:Nat):Bool:=match l[i]? with|some x=> !is q x|none=>true
def Zq(H:l[k]? =some s)(J:is q s=true)(D:(List.range k).all (uf l q)=true):atI l q=k:=by
 obtain⟨I,e⟩:=aA.1 H;have:l.findIdx? (is q)=some k:=List.findIdx?_eq_some_iff_getElem.2 ⟨I,by rw[e];exact J,λj G=>by
  have:=aG.1 D j<|List.mem_range.2 G;simp only[uf,ao<|show j<l.length by omega]at this;simpa using this⟩
 rw[atI,this]
def VR(G:(List.range l.length).all (uf l q)=true):atI l q= -1:=by
 have:l.findIdx? (is q)=none:=List.findIdx?_eq_none_iff.2 λx H=>by
  obtain⟨j,D,rfl⟩:=List.getElem_of_mem H;have:=aG.1 G j<|List.mem_range.2 D;simp only[uf,ao D]at this;simpa using this
 rw[atI,this]
def xw(z:ax)(i:Nat):Bool:=match z.af[i]? with|some s=> !(decide ((s.set.data.length:Int)>20)||decide ((s.sigs.length:Int)>20))|none=>false
def sr(z:ax):Bool:=decide ((z.af.length:Int)<=100)&&(List.range z.af.length).all (xw z)
def ab1(z:ax)(q:bO)(J:z.af.length<=100000):NQ.Fn cx 86 [.agg<|aV z,.agg<|eY q] (aj<|atI z.af q) []:=by
 refine bL bf mixed Tryz.func86 ?_;refine⟨Nat,λk=>⟨[(2,.ptr 2 0),(3,.ptr 3 0),(5,aj k)],[(2,.box<|(aV z).map .d),(3,.box<|(eY q).map .d)]⟩,λk=>k<=z.af.length/\(List.range k).all (uf z.af q)=true,λk=>z.af.length-k,⟨0,⟨by omega,rfl⟩,aI.keep⟩,λk ⟨I,j⟩=>?_⟩;(conv=>whnf);refine aD ?_ ?_<;>intro h1
 .have G:k<z.af.length:=by simp at h1;omega
  obtain⟨s,H⟩:∃s,z.af[k]? =some s:=⟨_,ao G⟩
  have D:uf z.af q k= !is q s:=by simp only[uf,H]
  repeat' (first
   |(refine bJ<|M ?_)
   |(refine ak rfl ?_;rw[Zq H (by simp only[is, *, if_true,if_false,aX]) j];rfl)
   |(refine⟨k+1,⟨by omega,?_⟩,by(show z.af.length-(k+1)<z.af.length-k;omega),aI.keep⟩;rw[eD,j,D];((try simp only[au]at *);simp only[is, *, if_true,if_false,aX];done))
   |(refine aD ?_ ?_<;>intro h)
   |(refine⟨aB k,an s,aL H,M ?_⟩)
   |fail)
 .obtain rfl:k=z.af.length:=(by simp at h1;omega)
  refine ak rfl ?_;rw[VR j];rfl
def abd(z:ax):NQ.Fn cx 50 [.agg<|aV z] (.d<|.bool<|sr z) []:=by
 refine bL bf mixed Tryz.func50 ?_;refine⟨Nat,λk=>⟨[(1,.ptr 1 0),(3,aj k)],[(1,.box<|(aV z).map .d)]⟩,λk=>k<=z.af.length/\k<=101/\(List.range k).all (xw z)=true,λk=>101-k,
  ⟨0,⟨by omega,by omega,rfl⟩,aI.keep⟩,λk ⟨V,U,j⟩=>M ?_⟩
 refine aD ?_ ?_<;>intro h1
 .have H:k<z.af.length:=by simp at h1;omega
  refine aD ?_ ?_<;>intro J
  .have K :k<=100:=by simp at J;omega
   obtain⟨s,N⟩:∃s,z.af[k]? =some s:=⟨_,ao H⟩
   have G:xw z k= !(decide ((s.set.data.length:Int)>20)||decide ((s.sigs.length:Int)>20)):=by simp only[xw,N]
   have I:xw z k=false->sr z=false:=λT=>by rw[sr,eZ H T,kW]
   repeat' (first
    |(refine bJ<|M ?_)
    |(refine ak rfl ?_;show AV.d (D.bool false)=_;(try simp only[au]at *);rw[I<|by rw[G];simp only[xw, *, if_true,if_false,aX]];done)
    |(refine⟨k+1,⟨by omega,by omega,?_⟩,by(show 101-(k+1)<101-k;omega),aI.keep⟩;rw[eD,j,G];((try simp only[au]at *);simp only[xw, *, if_true,if_false,aX];done))
    |(refine aD ?_ ?_<;>intro h)
    |(refine⟨aB k,an s,aL N,M ?_⟩)
    |fail)
  .refine ak rfl ?_;show AV.d (D.bool<|decide<|((z.af.map an).length:Int)<=100)=_
   have:decide ((z.af.length:Int)<=100)=false:=by simp at J ⊢;omega
   rw[au,sr,this];rfl
 .refine ak rfl ?_;obtain rfl:k=z.af.length:=(by simp at h1;omega)
  show AV.d (D.bool<|decide<|((z.af.map an).length:Int)<=100)=_
  rw[au,sr,j,gF]
def dv(ag:Bs):List Signed->List Bs
 |[]=>[]
 |s::t=>if eS ag s=true then s.set.name::dv ag t else dv ag t
def uK(ag:Bs):∀(l:List Signed) c,c∈dv ag l-> ∃s∈l,s.set.name=c
 |[],c,h=>by cases h
 |s::t,c,h=>by
  unfold dv at h;split at h
  .rcases List.mem_cons.1 h with rfl|h
   .exact⟨s,List.mem_cons_self .., rfl⟩
   .obtain⟨x,j,e⟩:=uK ag t c h;exact⟨x,aZ _ j,e⟩
  .obtain⟨x,j,e⟩:=uK ag t c h;exact⟨x,aZ _ j,e⟩
def DC(acc:List Bs)(c:Bs):Bool:=((acc.length:Int)==0)|| !bd c (kL acc)
def vL:List Bs->List Bs->List Bs
 |acc,[]=>acc
 |acc,c::t=>vL (if DC acc c=true then acc++[c]else acc) t
def cm(z:ax):List Bs:=vL []<|dv z.ag z.af
def drop_cons{l:List α}{x:α}(h:l[k]? =some x):l.drop k=x::l.drop (k+1):=by
 obtain⟨j,e⟩:=aA.1 h;rw[List.drop_eq_getElem_cons j,e]
def nE(h:acc.length≠0):kL acc∈acc:=by
 rw[kL,ao<|by omega];exact List.getElem_mem _
def IB(cs:List Bs)(n:Bs)(k:Nat):Nat:=k+((cs.drop k).takeWhile λc=>decide<|bl c n<=0).length
def IH(cs:List Bs)(j:Nat):Bs:=(cs[j-1]?).getD []
def Js(cs:List Bs)(j:Nat)(n:Bs):Bs:=if (decide ((j:Int)>0)&&bd n (IH cs j))=true then IH cs j else[]
def bGo(cs:List Bs):Nat->List Signed->List Bs
 |_,[]=>[]
 |k,s::t=>Js cs (IB cs s.set.name k) s.set.name::bGo cs (IB cs s.set.name k) t
def OO(z:ax):List Bs:=bGo (cm z) 0 z.af
def Ks:∀(l acc:List Bs) c,c∈vL acc l->c∈acc\/c∈l
 |[],acc,c,h=> .inl h
 |x::t,acc,c,h=>by
  rw[vL]at h;rcases Ks t _ c h with q|q
  .split at q
   .rcases List.mem_append.1 q with q|q
    .exact .inl q
    .simp at q;subst q;exact .inr (List.mem_cons_self ..)
   .exact .inl q
  .exact .inr<|aZ _ q
def lX(b:Bool):List D:=[.bool b]
def qY{z:Bs}(h:bd a z=true):bl z a<=0:=by
 rw[gU]at h;obtain⟨t,j⟩:=h;unfold bl;rw[<- j];exact No dz _ _
variable {c:Bs}
def qZ{z:Bs}(D:bd a z=true)(G:bd c z=true)(h1:bl a b<=0)(j:bl b c<=0):bd b z=true:=by
 rw[gU]at D G ⊢;obtain⟨s,H⟩:=D;obtain⟨t,I⟩:=G;unfold bl at h1 j;rw[<- H]at h1;rw[<- I]at j;exact uI dz _ _ _ _ h1 j
def kV(a:Bs):bd a a=true:=by rw[gU];exact List.prefix_refl _
def Te(h:bl a b<0):bl a b= -1:=by rcases bI.range a b with e|e|e<;>omega
def Jw(h:bl a b<0)(k:bl b c<0):bl a c<0:=by
 have:=bI.lt _ _ _ (Te h)<|Te k;omega
def OS(h:bl a b<0):¬bl b a<=0:=by have:=bI.lE a b;omega
abbrev Asc(l:List Bs):Prop:=l.Pairwise λa b=>bl a b<0
def JO(ag:Bs):∀(l:List Signed),fo l->Asc (dv ag l)
 |[],_=>List.Pairwise.nil
 |x::t,h=>by
  have G:=JO ag t h.tail;unfold dv;split
  .rename_i H;refine List.Pairwise.cons ?_ G;intro c T;have U:∀(l:List Signed) c,c∈dv ag l-> ∃s∈l,s.set.name=c/\s.set.type=2:=by
    intro l;induction l with
    |nil=>intro c h;cases h
    |cons s l G =>
     intro c h;unfold dv at h;split at h
     .rename_i D;rcases List.mem_cons.1 h with rfl|h
      .refine⟨s,List.mem_cons_self .., rfl,?_⟩;unfold eS at D;simp at D;exact D.1
      .obtain⟨y,J,e⟩:=G c h;exact⟨y,aZ _ J,e⟩
     .obtain⟨y,J,e⟩:=G c h;exact⟨y,aZ _ J,e⟩
   obtain⟨s,D,K,N⟩:=U t c T;have j:=pQ h s D;have I:x.set.type=2:=by unfold eS at H;simp at H;exact H.1
   unfold Signed.place at j;rw[K,N,I]at j;unfold cpl lex at j;split at j
   .have:dI 2 2=0:=rfl;simp only at j;rw[this]at j;omega
   .exact j
  .exact G
def BW(l:List Bs):Prop:= ∀a∈l,∀b∈l,bd a b=true->a=b
def Cc{l:List Bs}(h:Asc l)(G:l.length≠0):∀a∈l,bl a (kL l)<=0:=by
 intro a j;obtain⟨i,D,rfl⟩:=List.getElem_of_mem j;rw[kL,ao<|by omega,Option.getD_some];by_cases e:i=l.length-1
 .subst e;rw[(bI.zero _ _).2 rfl];exact Int.le_refl _
 .have:=List.pairwise_iff_getElem.1 h i (l.length-1) D (by omega) (by omega);omega
def zy:∀(j acc:List Bs),Asc (acc++j)->BW acc->Asc (vL acc j)/\BW (vL acc j)/\(∀a∈acc,a∈vL acc j)/\(∀c∈j,∃h∈vL acc j,bd c h=true)
 |[],acc,h,N=>⟨by rw[vL];simpa using h,N,λa h=>h,λc h=>by cases h⟩
 |c::t,acc,h,N=>by
  have T:Asc acc:=(List.pairwise_append.1 h).1;have U:∀a∈acc,bl a c<0:=λa H=>(List.pairwise_append.1 h).2.2 a H c (List.mem_cons_self ..)
  rw[vL];by_cases G:DC acc c=true
  .rw[if_pos G];have Y:∀a∈acc,bd c a=false:=by
    intro a H;cases I:bd c a with
    |false=>rfl
    |true =>
     have D:acc.length≠0:=by cases acc with|nil=>cases H|cons=>simp
     have h1:=Cc T D a H;have h2:=U _<|nE D;have h3:=qZ (kV a) I h1 (by omega);have h4:=N _ (nE D) _ H h3;unfold DC at G;rw[h4,I]at G;simp at G;exact absurd (by simpa using G) D
   have J:BW<|acc++[c]:=by
    intro a W b X I;rcases List.mem_append.1 W with qa|qa<;>rcases List.mem_append.1 X with qb|qb
    .exact N a qa b qb I
    .simp at qb;subst qb;exact absurd (qY I)<|OS<|U a qa
    .simp at qa;subst qa;rw[Y b qb]at I;cases I
    .simp at qa qb;rw[qa,qb]
   obtain⟨Z,r2,V,r4⟩:=zy t (acc++[c]) (by simpa using h) J;refine⟨Z,r2,λa H=>V a<|List.mem_append_left _ H,λx K=>?_⟩;rcases List.mem_cons.1 K with rfl|K
   .exact⟨x,V x<|by simp,kV x⟩
   .exact r4 x K
  .rw[if_neg G];have D:acc.length≠0:=λe=>G (by unfold DC;rw[e];rfl)
   have I:bd c (kL acc)=true:=by
    unfold DC at G;simp at G;exact G.2
   have h' :Asc<|acc++t:=by
    have h:=List.pairwise_append.1 h;refine List.pairwise_append.2 ?_;exact⟨h.1,(List.pairwise_cons.1 h.2.1).2,λa H b hb=>h.2.2 a H b<|aZ _ hb⟩
   obtain⟨Z,r2,V,r4⟩:=zy t acc h' N;refine⟨Z,r2,V,λx K=>?_⟩;rcases List.mem_cons.1 K with rfl|K
   .exact⟨_,V _<|nE D,I⟩
   .exact r4 x K
def spec(H:List Bs)(n:Bs):Bs:=(H.find? λh=>bd n h).getD []
variable {H:List Bs}
def pU(T:Asc H)(J:BW H){h:Bs}(G:h∈H)(I:bd n h=true):spec H n=h:=by
 unfold spec;cases D:H.find? (λh=>bd n h)with
 |none=>have:=List.find?_eq_none.1 D h G;rw[I]at this;exact absurd rfl this
 |some g =>
  have K:=List.find?_some D;have j:=List.mem_of_find?_eq_some D;show g=h
  have h1:=qY I;have N:=qY K;rcases bI.range g h with e|e|e
  .exact(J h G g j<|qZ (kV g) K (by omega) h1).symm
  .exact(bI.zero _ _).1 e
  .have:=bI.lE g h;exact J g j h G<|qZ (kV h) I (by omega) N
def vo(h:∀x∈H,bd n x=false):spec H n=[]:=by
 unfold spec;rw[List.find?_eq_none.2 λx j=>by rw[h x j];simp];rfl
def cnt(H:List Bs)(n:Bs):Nat:=(H.takeWhile λc=>decide<|bl c n<=0).length
def SI(G:k<=H.length)(j:∀c∈H.take k,bl c n<=0):IB H n k=cnt H n:=by
 unfold IB cnt;conv=>rhs;rw[<- List.take_append_drop k H]
 rw[List.takeWhile_append_of_pos<|by intro a D;simpa using j a D,List.length_append,List.length_take];omega
def Tj(H:List Bs)(n:Bs):cnt H n<=H.length:=by
 unfold cnt;exact(List.takeWhile_sublist _).length_le
def Vl{α:Type}{p:α->Bool}:∀{l:List α} {x:α},x∈l.takeWhile p->p x=true
 |[],x,h=>by cases h
 |y::t,x,h=>by
  rw[List.takeWhile_cons]at h;split at h
  .rcases List.mem_cons.1 h with rfl|h
   .assumption
   .exact Vl h
  .cases h
def JF(H:List Bs)(n:Bs):∀c∈H.take (cnt H n),bl c n<=0:=by
 intro c j;have:H.take (cnt H n)=H.takeWhile λc=>decide<|bl c n<=0:=by
  unfold cnt;exact(List.prefix_iff_eq_take.1<|List.takeWhile_prefix _).symm
 rw[this]at j;have:=Vl j;simpa using this
def Yp(H:List Bs)(n:Bs):H.take (cnt H n)=H.takeWhile λc=>decide<|bl c n<=0:=by
 unfold cnt;exact(List.prefix_iff_eq_take.1<|List.takeWhile_prefix _).symm
def Bk(h:bl a b<0)(k:bl b c<=0):bl a c<=0:=by
 rcases bI.range b c with e|e|e
 .have:=Jw h (by omega:bl b c<0);omega
 .rw[<- (bI.zero _ _).1 e];omega
 .omega
def Wc(h:bl a b<=0)(k:bl b c<=0):bl a c<=0:=by
 rcases bI.range a b with e|e|e
 .exact Bk (by omega) k
 .rw[(bI.zero _ _).1 e];exact k
 .omega
def Pr{n h:Bs}(j:bl h n<=0):∀{H:List Bs},Asc H->h∈H->h∈H.takeWhile λc=>decide<|bl c n<=0
 |[],_,D=>by cases D
 |x::t,G,D=>by
  rcases List.mem_cons.1 D with rfl|D
  .rw[List.takeWhile_cons,if_pos<|by simpa using j];exact List.mem_cons_self ..
  .have I:=(List.pairwise_cons.1 G).1 h D;rw[List.takeWhile_cons,if_pos<|by simpa using Bk I j];exact aZ _<|Pr j (List.pairwise_cons.1 G).2 D
def SS(V:Asc H)(X:BW H)(n:Bs):Js H (cnt H n) n=spec H n:=by
 have N:cnt H n≠0->IH H (cnt H n)=kL (H.take<|cnt H n)/\(H.take<|cnt H n).length≠0:=λh0=>by
  have hl:=Tj H n;have e:(H.take<|cnt H n).length=cnt H n:=by rw[List.length_take];omega
  refine⟨?_,by omega⟩;unfold IH kL;rw[e,List.getElem?_take,if_pos<|by omega]
 by_cases G:∃h∈H,bd n h=true
 .obtain⟨h,W,D⟩:=G;have j:=Pr (qY D) V W;rw[<- Yp]at j;have h0:cnt H n≠0:=λe=>by rw[e]at j;cases j
  obtain⟨U,T⟩:=N h0;have hAt:Asc<|H.take<|cnt H n:=V.sublist<|List.take_sublist _ _;have h1:=Cc hAt T h j;have I:=nE T;have Y:=JF H n _ I;have Z:=X _ (List.mem_of_mem_take I) _ W<|qZ (kV h) D h1 Y;have K:decide (((cnt H n:Nat):Int)>0)=true:=by simp;omega
  rw[pU V X W D,Js,U,Z,D,K];rfl
 .have J:∀x∈H,bd n x=false:=λx hx=>by
   cases D:bd n x with
   |false=>rfl
   |true=>exact absurd ⟨x,hx,D⟩ G
  rw[vo J];by_cases h0:cnt H n=0
  .rw[Js,h0];rfl
  .obtain⟨U,T⟩:=N h0;rw[Js,U,J _<|List.mem_of_mem_take<|nE T,kW];rfl
def BH{x:Signed}(h:fo<|x::l):∀s∈l,bl x.set.name s.set.name<=0:=λs D=>by
 have j:=pQ h s D;unfold cpl lex Signed.place at j;simp only at j;split at j
 .omega
 .omega
def Jr{H:List Bs}(j:Asc H)(D:BW H):∀(l:List Signed) (k:Nat),fo l->k<=H.length->(∀s∈l,∀c∈H.take k,bl c s.set.name<=0)->bGo H k l=l.map λs=>spec H s.set.name
 |[],_,_,_,_=>rfl
 |s::t,k,G,J,hp=>by
  have e:=SI J<|hp s (List.mem_cons_self ..);rw[bGo,e,SS j D,List.map_cons]
  congr 1
  refine Jr j D t _ G.tail (Tj _ _) λx K c I=>?_
  exact Wc (JF _ _ c I)<|BH G x K
def oe(h:Ordered z):Asc (cm z)/\BW (cm z)/\ ∀c∈dv z.ag z.af,∃g∈cm z,bd c g=true:=by
 obtain⟨h1,j,_,D⟩:=zy (dv z.ag z.af) [] (by simpa using JO z.ag z.af h.rising) (λa G=>by cases G);exact⟨h1,j,D⟩
def tP(h:Ordered z):OO z=z.af.map λs=>spec (cm z) s.set.name:=by
 obtain⟨h1,j,_⟩:=oe h;exact Jr h1 j z.af 0 h.rising (by omega) λs _ c D=>by cases D
def pR:∀{l:List Signed},fo l->l.Pairwise λa b=>bl a.set.name b.set.name<=0
 |[],_=>List.Pairwise.nil
 |x::t,h=>List.Pairwise.cons (BH h)<|pR h.tail
def Cl(ag n:Bs):∀(l:List Signed),ij ag l n=true ↔ n∈dv ag l
 |[]=>by simp[ij,dv]
 |s::t=>by
  have j:=Cl ag n t;unfold ij at j ⊢;unfold dv;rw[List.any_cons,Bool.or_eq_true,j];by_cases h:eS ag s=true
  .rw[if_pos h,h,gq,List.mem_cons,beq_iff_eq];exact⟨λk=>k.imp (λe=>e.symm) id,λk=>k.imp (λe=>e.symm) id⟩
  .have h' :eS ag s=false:=by simpa using h
   rw[if_neg h,h'];simp
def Yg(H:List Bs)(n:Bs):spec H n=[]\/spec H n∈H:=by
 unfold spec;cases j:H.find? (λh=>bd n h)with
 |none=>exact .inl rfl
 |some g=>exact .inr<|List.mem_of_find?_eq_some j
def tX{h:Bs}(j:h∈cm z):h∈dv z.ag z.af:=by
 rcases Ks _ _ _ j with q|q
 .cases q
 .exact q
def sR(D:Ordered z){h:Bs}(j:h∈cm z):aR h=true:=by
 obtain⟨s,G,e⟩:=uK _ _ _<|tX j;rw[<- e];exact D.name s G
def Vd(ho:Ordered z){I t:List Signed}(hz:I++s::t=z.af)
 (hc:(I=[]/\c=[])\/ ∃p y,I=p++[y]/\c=spec (cm z) y.set.name):mL (ij z.ag z.af) c s.set.name=spec (cm z) s.set.name:=by
 obtain⟨hA,ha,W⟩:=oe ho;have hs:s∈z.af:=by rw[<- hz];simp
 have vs:=ho.name s hs;have V:c=[]\/c∈cm z:=by
  rcases hc with ⟨_,e⟩|⟨p,y,_,e⟩
  .exact .inl e
  .rw[e];exact Yg _ _
 have hu:∀h∈cm z,(bD s.set.name h).1=bd s.set.name h:=λh D=>by
  unfold bD;rw[if_pos ⟨vs,sR ho D⟩]
 have N:∀h∈cm z,(h==[])=false:=λh D=>by
  have:=sR ho D;cases h with
  |nil=>exact absurd this (by decide)
  |cons=>rfl
 have hf:=pR ho.rising;rw[<- hz]at hf;obtain⟨q1,q2,q3⟩:=List.pairwise_append.1 hf;by_cases X:∃h∈cm z,bd s.set.name h=true
 .obtain⟨h,D,G⟩:=X;rw[pU hA ha D G];by_cases K:c=h
  .subst K;unfold mL;simp only[N c D,hu c D,G,vA,kW,pW,eV,if_false]
  .have T:s.set.name=h:=by
    refine Classical.byContradiction λhd=>K ?_
    have hle:=qY G;have hj:bl h s.set.name<0:=by
     rcases bI.range h s.set.name with e|e|e
     .omega
     .exact absurd ((bI.zero _ _).1 e).symm hd
     .omega
    obtain⟨x,hx,ex⟩:=uK _ _ _<|tX D;rw[<- hz]at hx;have H:x∈I:=by
     rcases List.mem_append.1 hx with k|k
     .exact k
     .rcases List.mem_cons.1 k with rfl|k
      .exact absurd ex hd
      .have:=(List.pairwise_cons.1 q2).1 x k;rw[ex]at this;exact absurd this<|OS hj
    rcases hc with ⟨e,_⟩|⟨p,y,e,ec⟩
    .rw[e]at H;cases H
    .have ht:=q3 y (by rw[e];simp) s (List.mem_cons_self ..);have hi:bl x.set.name y.set.name<=0:=by
      rw[e]at H q1;rcases List.mem_append.1 H with k|k
      .exact(List.pairwise_append.1 q1).2.2 x k y (by simp)
      .simp at k;subst k;rw[(bI.zero _ _).2 rfl];exact Int.le_refl _
     rw[ex]at hi;rw[ec,pU hA ha D<|qZ (kV h) G hi ht]
   have j:ij z.ag z.af s.set.name=true:=(Cl _ _ _).2 (by rw[T];exact tX D);have J :(if (!(c==[])&& !(bD s.set.name c).1)=true then[]else c)=[]:=by
    rcases V with e|e
    .subst e;rfl
    .have:bd s.set.name c=false:=by
      cases Z:bd s.set.name c with
      |false=>rfl
      |true=>exact absurd (ha h D c e<|by rw[<- T];exact Z).symm K
     rw[N c e,hu c e,this];rfl
   unfold mL;simp only[J,j];exact T
 .have U:∀x∈cm z,bd s.set.name x=false:=λx hx=>by
   cases Z:bd s.set.name x with
   |false=>rfl
   |true=>exact absurd ⟨x,hx,Z⟩ X
  rw[vo U];have j:ij z.ag z.af s.set.name=false:=by
   cases Z:ij z.ag z.af s.set.name with
   |false=>rfl
   |true =>
    obtain⟨g,hg,Y⟩:=W _<|(Cl _ _ _).1 Z;rw[U g hg]at Y;cases Y
  have J :(if (!(c==[])&& !(bD s.set.name c).1)=true then[]else c)=[]:=by
   rcases V with e|e
   .subst e;rfl
   .rw[N c e,hu c e,U c e];rfl
  unfold mL;simp only[J,j];rfl
def OQ{z:ax}(D:Ordered z):∀(l j:List Signed) (c:Bs),j++l=z.af->((j=[]/\c=[])\/ ∃p y,j=p++[y]/\c=spec (cm z) y.set.name) ->
 bh (ij z.ag z.af) c l=l.map λs=>spec (cm z) s.set.name
 |[],_,_,_,_=>rfl
 |s::t,j,c,G,H=>by
  rw[bh,Vd D G H,List.map_cons]
  congr 1
  exact OQ D t (j++[s]) _ (by rw[<- G];simp)<|.inr ⟨j,s,rfl,rfl⟩
def Gr(j:Ordered z):OO z=dD z:=by
 rw[tP j];exact(OQ j z.af [] [] rfl<|.inl ⟨rfl,rfl⟩).symm
def lV:∀{l:List Signed},fo l-> ∀{i j:Nat} {a b:Signed},i<j->l[i]? =some a->l[j]? =some b->cpl a.place b.place<0
 |[],_,_,_,_,_,_,h,_=>by cases h
 |x::t,H,i,j,a,b,I,D,G=>by
  cases j with
  |zero=>omega
  |succ j =>
   cases i with
   |zero=>cases D;exact pQ H b<|aw G
   |succ i=>exact lV H.tail (by omega) D G
def qT{a b:Signed}(h:cpl a.place b.place<0):bl a.set.name b.set.name<=0/\(a.set.name=b.set.name->a.set.type<b.set.type):=by
 unfold cpl lex Signed.place at h;simp only at h;split at h
 .rename_i e;refine⟨by omega,λ_=>?_⟩;unfold dI at h;split at h
  .assumption
  .split at h<;>omega
 .rename_i e;exact⟨by omega,λk=>absurd ((bI.zero _ _).2 k) e⟩
def YJ(h:bl a b<=0)(k:bl b a<=0):a=b:=by
 have:=bI.lE a b;exact(bI.zero _ _).1 (by omega)
def Jg{p:Signed}(H:z.af[i]? =some s)(hp:z.af[i-1]? =some p) :
 rj z i=false ↔ s.set.type=3/\((0<i/\p.set.name=s.set.name)\/ ∃x,z.af[i+1]? =some x/\x.set.name=s.set.name/\x.set.type≠8):=by
 simp only[rj,H,hp,Option.getD_some,Bool.not_eq_false'];unfold yG;by_cases D:i+1<z.af.length
 .obtain⟨x,G⟩:∃x,z.af[i+1]? =some x:=⟨_,ao D⟩
  have j:decide (((i:Nat):Int)+1<(z.af.length:Int))=true:=by simp;omega
  simp[G,j]
 .have G:z.af[i+1]? =none:=by simp;omega
  have j:decide (((i:Nat):Int)+1<(z.af.length:Int))=false:=by simp;omega
  simp[G,j]
def xu{a b:List α}(D:a.length=b.length)(h:∀i,i<a.length->a[i]? =b[i]?):a=b:=by
 apply List.ext_getElem?;intro i;by_cases j:i<a.length
 .exact h i j
 .rw[List.getElem?_eq_none<|by omega,List.getElem?_eq_none<|by omega]
def Aw{a b:List α}(h:∀i,i<k->a[i]? =b[i]?)(D:a[k]? =b[k]?):∀i,i<k+1->a[i]? =b[i]? :=λi j=>by
 rcases Nat.lt_or_eq_of_le (Nat.le_of_lt_succ j)with h1|rfl
 .exact h i h1
 .exact D
def mh[DecidableEq α]{a b:α}(h:a≠b):AV.d (D.bool false)=AV.d (D.bool<|decide<|a=b):=by rw[decide_eq_false h]
def Fa[DecidableEq α]{a b:α}(h:a=b):AV.d (D.bool true)=AV.d (D.bool<|decide<|a=b):=by rw[decide_eq_true h]
def DI{β:Type}{f:α->β}{a b:List α}(h:(((a.map f).length:Int) != ((b.map f).length:Int))=false):a.length=b.length:=by
 simp at h;omega
def Er(a b:cH)(N:a.data.length<=100000):NQ.Fn cx 29 [.agg<|bV a,.agg<|bV b] (.d<|.bool<|decide<|a=b) []:=by
 refine bL bf mixed Tryz.func29 ?_
 (refine aD ?_ ?_<;>intro h)
 .exact ak rfl (mh λe=>by subst e;simp at h)
 have h1:a.name=b.name:=by simpa using h
 (refine aD ?_ ?_<;>intro h)
 .exact ak rfl (mh λe=>by subst e;simp at h)
 have J:a.type=b.type:=by simpa using h
 (refine aD ?_ ?_<;>intro h)
 .exact ak rfl (mh λe=>by subst e;simp at h)
 have K:a.aJ=b.aJ:=by simpa using h
 (refine aD ?_ ?_<;>intro h)
 .exact ak rfl (mh λe=>by subst e;simp at h)
 have I:=DI h;refine⟨Nat,λk=>⟨[(2,.ptr 2 0),(3,.ptr 3 0),(5,aj k)],[(2,.box<|(bV a).map .d),(3,.box<|(bV b).map .d)]⟩,λk=>k<=a.data.length/\ ∀i,i<k->a.data[i]? =b.data[i]?, λk=>a.data.length-k,⟨0,⟨by omega,λi T=>by omega⟩,aI.keep⟩,λk ⟨U,j⟩=>M ?_⟩
 refine aD ?_ ?_<;>intro h1
 .have G:k<a.data.length:=by simp at h1;omega
  obtain⟨x,H⟩:∃s,a.data[k]? =some s:=⟨_,ao G⟩
  obtain⟨y,D⟩:∃s,b.data[k]? =some s:=⟨_,ao<|by omega⟩
  (refine bJ<|M ?_)
  refine⟨aB k,aS x,aL H,M ?_⟩
  refine⟨aB k,aS y,aL D,M ?_⟩
  (refine aD ?_ ?_<;>intro h)
  .refine ak rfl (mh λe=>?_);subst e;rw[H]at D;cases D;simp at h
  .refine⟨k+1,⟨by omega,Aw j ?_⟩,by(show a.data.length-(k+1)<a.data.length-k;omega),aI.keep⟩;rw[H,D];simp at h;cases x;cases y;simp at h ⊢;exact⟨h.1,h.2.1,h.2.2⟩
 .obtain rfl:k=a.data.length:=by simp at h1;omega
  refine ak rfl<|Fa ?_;have e:=xu I j;cases a;cases b;simp at *; exact⟨by assumption,by assumption,by assumption,e⟩
def Iq(a b:Signed)(J:a.set.data.length<=100000)(T:a.sigs.length<=100000):NQ.Fn cx 56 [.agg<|an a,.agg<|an b] (.d<|.bool<|decide<|a=b) []:=by
 refine bL bf mixed Tryz.func56 ?_
 (refine⟨_,_,Er a.set b.set J,M ?_⟩)
 (refine aD ?_ ?_<;>intro h)
 .exact ak rfl (mh λe=>by subst e;simp at h)
 have h1:a.set=b.set:=by simpa using h
 (refine aD ?_ ?_<;>intro h)
 .exact ak rfl (mh λe=>by subst e;simp at h)
 have I:=DI h;refine⟨Nat,λk=>⟨[(2,.ptr 2 0),(3,.ptr 3 0),(5,aj k)],[(2,.box<|(an a).map .d),(3,.box<|(an b).map .d)]⟩,λk=>k<=a.sigs.length/\ ∀i,i<k->a.sigs[i]? =b.sigs[i]?, λk=>a.sigs.length-k,⟨0,⟨by omega,λi K=>by omega⟩,aI.keep⟩,λk ⟨N,j⟩=>M ?_⟩
 refine aD ?_ ?_<;>intro h1
 .have G:k<a.sigs.length:=by simp at h1;omega
  obtain⟨x,H⟩:∃s,a.sigs[k]? =some s:=⟨_,ao G⟩
  obtain⟨y,D⟩:∃s,b.sigs[k]? =some s:=⟨_,ao<|by omega⟩
  (refine bJ<|M ?_)
  refine⟨aB k,oJ x,aL H,M ?_⟩
  refine⟨aB k,oJ y,aL D,M ?_⟩
  (refine aD ?_ ?_<;>intro h)
  .refine ak rfl (mh λe=>?_);subst e;rw[H]at D;cases D;simp at h
  .refine⟨k+1,⟨by omega,Aw j ?_⟩,by(show a.sigs.length-(k+1)<a.sigs.length-k;omega),aI.keep⟩;rw[H,D];simp at h;cases x;cases y;simp at h ⊢;exact h
 .obtain rfl:k=a.sigs.length:=by simp at h1;omega
  refine ak rfl<|Fa ?_;have e:=xu I j;cases a;cases b;simp at *; exact⟨by assumption,e⟩
def BK(a b:List Signed)(N:a.length<=100000)(K:∀s∈a,s.set.data.length<=100000/\s.sigs.length<=100000):NQ.Fn cx 30 [.slice 5<|a.map an,.slice 5<|b.map an] (.d<|.bool<|decide<|a=b) []:=by
 refine bL bf mixed Tryz.func30 ?_
 (refine aD ?_ ?_<;>intro h)
 .exact ak rfl (mh λe=>by subst e;simp at h)
 have J:=DI h;refine⟨Nat,λk=>⟨[(0,.d<|.slice 5<|a.map an),(1,.d<|.slice 5<|b.map an),(5,aj k)],[]⟩,λk=>k<=a.length/\ ∀i,i<k->a[i]? =b[i]?, λk=>a.length-k,⟨0,⟨by omega,λi T=>by omega⟩,aI.keep⟩,λk ⟨U,j⟩=>M ?_⟩
 refine aD ?_ ?_<;>intro h1
 .have I:k<a.length:=by simp at h1;omega
  obtain⟨x,G⟩:∃s,a[k]? =some s:=⟨_,ao I⟩
  obtain⟨y,H⟩:∃s,b[k]? =some s:=⟨_,ao<|by omega⟩
  have D:=K x (aw G)
  (refine bJ<|M ?_)
  refine⟨aB k,an x,aL G,M ?_⟩
  refine⟨aB k,an y,aL H,M ?_⟩
  (refine⟨_,_,Iq x y D.1 D.2,M ?_⟩)
  (refine aD ?_ ?_<;>intro h)
  .refine ak rfl (mh λe=>?_);subst e;rw[G]at H;cases H;simp at h
  .refine⟨k+1,⟨by omega,Aw j ?_⟩,by(show a.length-(k+1)<a.length-k;omega),aI.keep⟩;rw[G,H];simp at h;rw[h]
 .obtain rfl:k=a.length:=by simp at h1;omega
  exact ak rfl<|Fa<|xu J j
def Oc(a b:ax)(j:a.af.length<=100000)(G:∀s∈a.af,s.set.data.length<=100000/\s.sigs.length<=100000):NQ.Fn cx 21 [.agg<|aV a,.agg<|aV b] (.d<|.bool<|decide<|a=b) []:=by
 refine bL bf mixed Tryz.func21 ?_
 (refine aD ?_ ?_<;>intro h)
 .have h1:a.ag=b.ag:=by simpa using h
  (refine⟨_,_,BK a.af b.af j G,M ?_⟩)
  refine ak rfl ?_;show AV.d (D.bool<|decide<|a.af=b.af)=_
  congr 2
  cases a;cases b;simp at h1 ⊢;subst h1;simp
 .exact ak rfl (mh λe=>by subst e;simp at h)
def Ob(a b:List cH)(N:a.length<=100000)(K:∀s∈a,s.data.length<=100000):NQ.Fn cx 12 [.slice 4<|a.map bV,.slice 4<|b.map bV] (.d<|.bool<|decide<|a=b) []:=by
 refine bL bf mixed Tryz.func12 ?_
 (refine aD ?_ ?_<;>intro h)
 .exact ak rfl (mh λe=>by subst e;simp at h)
 have J:=DI h;refine⟨Nat,λk=>⟨[(0,.d<|.slice 4<|a.map bV),(1,.d<|.slice 4<|b.map bV),(5,aj k)],[]⟩,λk=>k<=a.length/\ ∀i,i<k->a[i]? =b[i]?, λk=>a.length-k,⟨0,⟨by omega,λi T=>by omega⟩,aI.keep⟩,λk ⟨U,j⟩=>M ?_⟩
 refine aD ?_ ?_<;>intro h1
 .have H:k<a.length:=by simp at h1;omega
  obtain⟨x,D⟩:∃s,a[k]? =some s:=⟨_,ao H⟩
  obtain⟨y,G⟩:∃s,b[k]? =some s:=⟨_,ao<|by omega⟩
  have I:=K x (aw D)
  (refine bJ<|M ?_)
  refine⟨aB k,bV x,aL D,M ?_⟩
  refine⟨aB k,bV y,aL G,M ?_⟩
  (refine⟨_,_,Er x y I,M ?_⟩)
  (refine aD ?_ ?_<;>intro h)
  .refine ak rfl (mh λe=>?_);subst e;rw[D]at G;cases G;simp at h
  .refine⟨k+1,⟨by omega,Aw j ?_⟩,by(show a.length-(k+1)<a.length-k;omega),aI.keep⟩;rw[D,G];simp at h;rw[h]
 .obtain rfl:k=a.length:=by simp at h1;omega
  exact ak rfl<|Fa<|xu J j
