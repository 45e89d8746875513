/-
  Merged texts.
-/
import Derived.Test.YtodofogcincleaaGreatDoorTyM
import Derived.Test.YtodofogcincleaaGreatDoorMZb
set_option linter.all false
set_option maxRecDepth 100000
namespace Go.Proofs.YtodofogcincleaaGreatDoor
open NQ Go.RowKit
def aQ(d:Datum):List D:=[.str d.text,.int .i64 d.n,.int .i64 d.m]
def gK(g:Sig):List D:=[.str g.ah,.int .i64 g.key,.int .i64 g.alg,.int .i64 g.since,.int .i64 g.aN,.int .u64 g.sum]
def cg(s:cG):List D:=[.str s.name,.int .i64 s.type,.int .i64 s.aP,.slice 3 (s.data.map aQ)]
def aw(s:Signed):List D:=[.str s.set.name,.int .i64 s.set.type,.int .i64 s.set.aP,.slice 3 (s.set.data.map aQ),.slice 6 (s.sigs.map gK)]
def aX(z:aO):List D:=[.str z.af,.slice 5 (z.ak.map aw)]
def pn(q:eP):List D:=[.str q.name,.int .i64 q.type]
def DX(r:yC):List D:=[.int .i64 r.text,.int .i64 r.NC,.int .i64 r.RT,.int .i64 r.NB,.int .i64 r.RS,.bool r.even,.bool r.single,.bool r.Mc]
theorem LQ{w:World}{O L:Nat->Prop}{σ:Nat->Value}{a b:AV}{u v:Value}(h1:aG w O L σ a u)(h2:aG w O L σ b v):aG w O L σ (.tuple [a,b]) (.tuple #[u,v]):=by
 refine .tuple _ _ rfl λj c hj=>?_
 rcases j with _|_|j
 .cases hj;exact h1
 .cases hj;exact h2
 .simp at hj
theorem mU(s:Bs):NQ.Fn cx 68 [.str s] (.d (.bool (bq s))) []:=by
 refine eY ⟨_,Tryz.func68,by kernel_rfl,by kernel_rfl⟩ rfl λw vs _ hK hD=>?_
 obtain⟨b,hb,rfl⟩:=fY (hD 0 _ rfl);rw[uS hK,hb];exact(Hf b w).mono λe w' ⟨he,hF⟩=>⟨_,he,hF,.fL _⟩
theorem Mi(s:Bs):NQ.Fn cx 22 [.str s] (.d (.bool (bq s))) []:=by
 refine eY ⟨_,Tryz.func22,by kernel_rfl,by kernel_rfl⟩ rfl λw vs _ hK hD=>?_
 obtain⟨b,hb,rfl⟩:=fY (hD 0 _ rfl);rw[uS hK,hb];exact(Ei b w).mono λe w' ⟨he,hF⟩=>⟨_,he,hF,.fL _⟩
theorem uX(s:Bs):NQ.Fn cx 81 [.str s] (.d (.bool (lE s))) []:=by
 refine eY ⟨_,Tryz.func81,by kernel_rfl,by kernel_rfl⟩ rfl λw vs _ hK hD=>?_
 obtain⟨b,hb,rfl⟩:=fY (hD 0 _ rfl);rw[uS hK,hb];exact(yY b w).mono λe w' ⟨he,hF⟩=>⟨_,he,hF ▸ Below.refl _ _,.fL _⟩
theorem Mh(s:Bs):NQ.Fn cx 201 [.str s] (.tuple [.d (.str (je s).1),.d (.int .i64 (je s).2)]) []:=by
 refine eY ⟨_,Tryz.func201,by kernel_rfl,by kernel_rfl⟩ rfl λw vs _ hK hD=>?_
 obtain⟨b,hb,rfl⟩:=fY (hD 0 _ rfl);rw[uS hK,hb];exact(Eg b w).mono λe w' ⟨he,hF⟩=>⟨_,he,hF,LQ (.d _ _ (.str _ _ (S_mk _))) (.mkInt _ _)⟩
theorem od(s z:Bs):NQ.Fn cx 94 [.str s,.str z] (.tuple [.d (.bool (bK s z).1),.d (.int .i64 (bK s z).2)]) []:=by
 refine eY ⟨_,Tryz.func94,by kernel_rfl,by kernel_rfl⟩ rfl λw vs _ hK hD=>?_
 obtain⟨b,hb,rfl⟩:=fY (hD 0 _ rfl);obtain⟨c,hc,rfl⟩:=fY (hD 1 _ rfl);rw[xJ hK,hb,hc];exact(He b c w).mono λe w' ⟨he,hF⟩=>⟨_,he,hF,LQ (.fL _) (.mkInt _ _)⟩
theorem zx(s z:Bs):NQ.Fn cx 204 [.str s,.str z] (.tuple [.d (.int .i64 (fg s z).1),.d (.int .i64 (fg s z).2)]) []:=by
 refine eY ⟨_,Tryz.func204,by kernel_rfl,by kernel_rfl⟩ rfl λw vs _ hK hD=>?_
 obtain⟨b,hb,rfl⟩:=fY (hD 0 _ rfl);obtain⟨c,hc,rfl⟩:=fY (hD 1 _ rfl);rw[xJ hK,hb,hc];exact(Dt b c w).mono λe w' ⟨he,hF⟩=>⟨_,he,hF,LQ (.mkInt _ _) (.mkInt _ _)⟩
theorem Dr(x lo hi:Int):NQ.Fn cx 80 [.int .i64 x,.int .i64 lo,.int .i64 hi] (.d (.bool (within x lo hi))) []:=by
 refine eY ⟨_,Tryz.func80,by kernel_rfl,by kernel_rfl⟩ rfl λw vs _ hK hD=>?_
 rw[Sc hK,xB (hD 0 _ rfl),xB (hD 1 _ rfl),xB (hD 2 _ rfl)];exact(kU x lo hi w).mono λe w' ⟨he,hF⟩=>⟨_,he,hF ▸ Below.refl _ _,.fL _⟩
theorem Qg(x:Int):NQ.Fn cx 93 [.int .i64 x] (.d (.bool false)) []:=by
 refine aT bo mixed Tryz.func93 ?_;conv=>whnf
 repeat' (first|(refine aj (λh=>?_) (λh=>?_) <;> (rw[h];conv=>whnf))|fail)
 all_goals (refine al rfl ?_;simp[D.dX])
theorem lJ(x y:Int):NQ.Fn cx 44 [.int .i64 x,.int .i64 y] (.d (.int .i64 (dA x y))) []:=by
 refine aT bo mixed Tryz.func44 ?_;conv=>whnf
 repeat' (first|(refine⟨_,_,Qg _,?_⟩;conv=>whnf)|(refine aj (λh=>?_) (λh=>?_) <;> (rw[h];conv=>whnf))|fail)
 all_goals (refine al rfl ?_;simp_all [D.dX,dA];try omega)
theorem vt(x y:Bs):NQ.Fn cx 142 [.str x,.str y] (.d (.int .i64 (Go.Lib.compareBytes x y))) []:=by
 refine eY ⟨_,Tryz.func142,by kernel_rfl,by kernel_rfl⟩ rfl λw vs _ hK hD=>?_
 obtain⟨b,hb,rfl⟩:=fY (hD 0 _ rfl);obtain⟨c,hc,rfl⟩:=fY (hD 1 _ rfl);rw[xJ hK,hb,hc];exact(zS b c w).mono λe w' ⟨he,hF⟩=>⟨_,he,hF ▸ Below.refl _ _,.mkInt _ _⟩
end Go.Proofs.YtodofogcincleaaGreatDoor
namespace Go.Proofs.YtodofogcincleaaGreatDoor
open NQ Go.RowKit
def lT(l:List Int):Int:=(l.find? (· != 0)).getD 0
theorem Ij{l:List Int}{k:Nat}(h:(List.range k).all (λi=>(l[i]?.getD 0)==0)=true)(hk:l.length<=k):lT l=0:=by
 have:l.find? (· != 0)=none:=by
  rw[List.find?_eq_none];intro x hx;obtain⟨j,hj,rfl⟩:=List.getElem_of_mem hx;have:=aI.1 h j (List.mem_range.2 (by omega));simpa [hj] using this
 rw[lT,this];rfl
theorem Ik{l:List Int}:∀{k:Nat} {x:Int},(List.range k).all (λi=>(l[i]?.getD 0)==0)=true->l[k]? =some x->x≠0->lT l=x:=by
 induction l with
 |nil=>intro k x _ h;simp at h
 |cons a t ih =>
  intro k x h hx h0;cases k with
  |zero=>simp at hx;subst hx;simp[lT,h0]
  |succ k =>
   have ha:a=0:=by have:=aI.1 h 0 (List.mem_range.2 (by omega));simpa using this
   have:=ih (k:=k) (x:=x) (aI.2 λi hi=>by
    have:=aI.1 h (i+1) (List.mem_range.2 (by have:=List.mem_range.1 hi;omega));simpa using this) (by simpa using hx) h0
   simpa [lT,ha] using this
theorem JE(x y z:Int):lT [x,y,z]=if x=0 then(if y=0 then z else y)else x:=by
 by_cases hx:x=0 <;> by_cases hy:y=0 <;> by_cases hz:z=0 <;> simp[lT,hx,hy,hz]
theorem Nr(s:Bs):NQ.Fn cx 141 [.str s] (.d (.bool (iN s))) []:=by
 refine eY ⟨_,Tryz.func141,by kernel_rfl,by kernel_rfl⟩ rfl λw vs _ hK hD=>?_
 obtain⟨b,hb,rfl⟩:=fY (hD 0 _ rfl);rw[uS hK,hb];exact(FH b w).mono λe w' ⟨he,hF⟩=>⟨_,he,hF ▸ Below.refl _ _,.fL _⟩
theorem DG(r:yC)(d:Datum):NQ.Fn cx 82 [.agg (DX r),.agg (aQ d)] (.d (.bool (nY r d))) []:=by
 refine aT bo mixed Tryz.func82 ?_;conv=>whnf
 repeat' (first|(refine⟨_,_,Dr _ _ _,?_⟩;conv=>whnf)|(refine⟨_,_,uX _,?_⟩;conv=>whnf)|(refine⟨_,_,mU _,?_⟩;conv=>whnf)|(refine⟨_,_,Nr _,?_⟩;conv=>whnf)|(refine aj (λh=>?_) (λh=>?_) <;> (rw[h];conv=>whnf))|fail)
 all_goals
  refine al rfl ?_;simp only[D.dX,nY,wO]
  simp_all
def kx(n:Int):List D:=[.int .i64 n]
theorem DU(l:List Int)(hl:l.length<=1000):NQ.Fn cx 108 [.slice 1 (l.map kx)] (.d (.int .i64 (lT l))) []:=by
 refine aT bo mixed Tryz.func108 ?_;conv=>whnf
 refine⟨Nat,λk=>⟨[(0,.d (.slice 1 (l.map kx))),(3,.d (.int .i64 0)),(6,.d (.slice 1 (l.map kx))),(7,.d (.int .i64 ((l.map kx).length:Int))),(8,.d (.int .i64 k))],[]⟩,
  λk=>k<=l.length/\(List.range k).all (λi=>(l[i]?.getD 0)==0)=true,λk=>l.length-k,⟨0,⟨by omega,rfl⟩,aK.keep ⟨ae,ae,ae,ae,ae,trivial⟩ trivial⟩,λk ⟨hk,hB⟩=>?_⟩
 conv=>whnf
 refine aj (λh1=>?_) (λh1=>?_) <;> (rw[h1];conv=>whnf)
 .have hC:k<l.length:=by simp at h1;omega
  obtain⟨g,hg⟩:∃g,l[k]? =some g:=⟨_,au hC⟩
  refine⟨aC k,kx g,aM hg,?_⟩;conv=>whnf
  refine aj (λh=>?_) (λh=>?_) <;> (rw[h];conv=>whnf)
  .refine al rfl ?_;rw[Ik hB hg (by simpa using h)];rfl
  .refine⟨k+1,⟨by omega,?_⟩,by(show l.length-(k+1)<l.length-k;omega),aK.keep ⟨ae,ae,ae,ae,⟨ax (by omega),rfl⟩,trivial⟩ trivial⟩;rw[dU,hB,hg];simpa using h
 .refine al rfl ?_;rw[Ij hB (by simp at h1;omega)];rfl
theorem BH(a b:Datum):NQ.Fn cx 83 [.agg (aQ a),.agg (aQ b)] (.d (.int .i64 (fW a b))) []:=by
 refine aT bo mixed Tryz.func83 ?_;conv=>whnf
 repeat' (first|(refine bV ?_;conv=>whnf)|(refine⟨_,_,vt _ _,?_⟩;conv=>whnf)|(refine⟨_,_,lJ _ _,?_⟩;conv=>whnf)|fail)
 refine⟨_,DU [_,_,_] (by simp),rfl,?_⟩;conv=>whnf
 refine al rfl ?_;rw[JE];rfl
def vA(r:yC)(i:Nat)(d p:Datum):Bool:= !nY r d||(decide ((i:Int)>0)&&decide (fW p d>=0))
def xf(r:yC)(l:List Datum)(i:Nat):Bool:=match l[i]?, l[i-1]? with|some d,some p=> !vA r i d p|_,_=>false
theorem EZ{r:yC}{l:List Datum}{i:Nat}{d p:Datum}(h1:l[i]? =some d)(h2:l[i-1]? =some p):xf r l i= !vA r i d p:=by simp only[xf,h1,h2]
def ee(s:cG):Bool :=
 !((!bq s.name|| !within s.type 1 8|| !within s.aP 0 100000)|| !within s.data.length 1 8 ||
  (((tx s.type).single&&((s.data.length:Int) != 1))||(lE s.name&& !(tx s.type).Mc)))&&(List.range s.data.length).all (xf (tx s.type) s.data)
theorem Lr{t:Int}(h:within t 1 8=true):0<=t/\t<9/\ ∃rest,wB.drop (t.toNat*8)=DX (tx t)++rest:=by
 simp[within]at h;refine⟨by omega,by omega,?_⟩;have:t=1\/t=2\/t=3\/t=4\/t=5\/t=6\/t=7\/t=8:=by omega
 rcases this with rfl|rfl|rfl|rfl|rfl|rfl|rfl|rfl <;> exact⟨_,rfl⟩
theorem jI(s:cG):NQ.Fn cx 37 [.agg (cg s)] (.d (.bool (ee s))) []:=by
 refine aT bo mixed Tryz.func37 ?_;conv=>whnf
 repeat' (first|(refine⟨_,_,Dr _ _ _,?_⟩;conv=>whnf)|(refine⟨_,_,mU _,?_⟩;conv=>whnf)|(refine aj (λh=>?_) (λh=>?_) <;> (rw[h];conv=>whnf))|(refine al rfl ?_;show AV.d (D.bool false)=_;(try simp only[aA]at *);simp only[ee, *, if_true,if_false,aY];done)|fail)
 have ht:within s.type 1 8=true:=by simp_all
 obtain⟨t1,t2,rest,hU⟩:=Lr ht;refine⟨t1,t2,?_⟩;show iZ (some (AV.d (.ptr (wB.drop (s.type.toNat*8))))) _
 rw[hU];generalize hr:tx s.type=r;conv=>whnf
 repeat' (first|(refine⟨_,_,uX _,?_⟩;conv=>whnf)|(refine aj (λh=>?_) (λh=>?_) <;> (rw[h];conv=>whnf))|(refine al rfl ?_;show AV.d (D.bool false)=_;(try simp only[aA]at *);simp only[ee, *, if_true,if_false,aY];done)|fail)
 all_goals
  have hn:s.data.length<=8:=by simp[within]at *; omega
  have hE:ee s=(List.range s.data.length).all (xf r s.data):=by
   simp only[aA]at *;simp only[ee, *, if_true,if_false,aY]
  refine⟨Nat,λk=>⟨[(1,.ptr 1 0),(3,.ptr 3 0),(50,.d (.slice 3 (s.data.map aQ))),(51,.d (.int .i64 ((s.data.map aQ).length:Int))),(52,.d (.int .i64 k))],[(1,.box ((cg s).map .d)),(3,.box ((DX r).map .d))]⟩,
   λk=>k<=s.data.length/\(List.range k).all (xf r s.data)=true,λk=>s.data.length-k,⟨0,⟨by omega,rfl⟩,aK.keep ⟨ae,ae,ae,ae,ae,trivial⟩ ⟨ae,⟨(by first|rfl|(show some (Blk.box [_,_,_,_,_,_,_,_])=_;simp only[DX,List.map_cons,List.map_nil, *])),rfl⟩,trivial⟩⟩,λk ⟨hk,hB⟩=>?_⟩
  conv=>whnf
  refine aj (λh1=>?_) (λh1=>?_) <;> (rw[h1];conv=>whnf)
  .have hC:k<s.data.length:=by simp at h1;omega
   obtain⟨g,hg⟩:∃g,s.data[k]? =some g:=⟨_,au hC⟩
   obtain⟨p,hp⟩:∃p,s.data[k-1]? =some p:=⟨_,au (by omega)⟩
   have hG:=EZ (r:=r) hg hp;have hI:xf r s.data k=false->ee s=false:=λhh=>by rw[hE,eu hC hh]
   refine⟨aC k,aQ g,aM hg,?_⟩;conv=>whnf
   repeat' (first
    |(refine bV ?_;conv=>whnf)
    |(refine⟨_,_,DG r g,?_⟩;conv=>whnf)
    |(refine⟨_,_,BH p g,?_⟩;conv=>whnf)
    |(refine aj (λh=>?_) (λh=>?_) <;> (rw[h];conv=>whnf))
    |(refine⟨(mY (by assumption) (by omega)).1,aQ p,lP (by assumption) (by omega) hp,?_⟩;conv=>whnf)
    |fail)
   all_goals first
    |(refine al rfl ?_;show AV.d (D.bool false)=_;rw[hI (by rw[hG];simp only[vA, *, if_true,if_false,aY])])
    |(refine⟨k+1,⟨by omega,?_⟩,by(show s.data.length-(k+1)<s.data.length-k;omega),aK.keep ⟨ae,ae,ae,ae,⟨ax (by omega),rfl⟩,trivial⟩ ⟨ae,ae,trivial⟩⟩;rw[dU,hB,hG];simp only[vA, *, if_true,if_false,aY])
    |fail
  .refine al rfl ?_;obtain rfl:k=s.data.length:=by simp at h1;omega
   show AV.d (D.bool true)=_
   rw[hE,hB]
def rA(a:Bs)(s:Int)(b:Bs)(t:Int):Int:=if a=b then dA s t else(fg a b).1
def fits(t:Int)(ap:Bool):Bool:=if t=3\/t=6 then !ap else if t=4\/t=7 then ap else true
def AY(i:Nat)(af:Bs)(g f p:Sig):Bool :=
 !(g.ah==af)||decide (g.key<1)||decide (g.key>1000000)||decide (g.alg<1)||decide (g.alg>3)||(decide (g.since<0)||decide (g.since>g.aN)||decide (g.aN>20000000)) ||
  (decide ((i:Int)>0)&&(g.since != f.since||g.aN != f.aN||decide (g.key<=p.key)))
def xD(l:List Sig)(af:Bs)(i:Nat):Bool :=
 match l[i]?, l[0]?, l[i-1]? with
 |some g,some f,some p=> !AY i af g f p
 |_,_,_=>false
theorem QZ{l:List Sig}{af:Bs}{k:Nat}{g f p:Sig}(hg:l[k]? =some g)(hf:l[0]? =some f)(hp:l[k-1]? =some p):xD l af k= !AY k af g f p:=by
 simp only[xD,hg,hf,hp]
def lQ(l:List Sig)(af:Bs):Bool:= !decide ((l.length:Int)>6)&&(List.range l.length).all (xD l af)
theorem qA(a:Bs)(s:Int)(b:Bs)(t:Int):NQ.Fn cx 143 [.str a,.int .i64 s,.str b,.int .i64 t] (.d (.int .i64 (rA a s b t))) []:=by
 refine aT bo mixed Tryz.func143 ?_;conv=>whnf
 repeat' (first|(refine aj (λh=>?_) (λh=>?_) <;> (rw[h];conv=>whnf))|(refine⟨_,_,zx _ _,?_⟩;conv=>whnf)|(refine⟨_,_,lJ _ _,?_⟩;conv=>whnf)|fail)
 all_goals (refine al rfl ?_;simp_all [D.dX,rA])
theorem Hs(t:Int)(ap:Bool):NQ.Fn cx 145 [.int .i64 t,.bool ap] (.d (.bool (fits t ap))) []:=by
 refine aT bo mixed Tryz.func145 ?_;conv=>whnf
 repeat' (first|(refine aj (λh=>?_) (λh=>?_) <;> (rw[h];conv=>whnf))|fail)
 all_goals (refine al rfl ?_;simp_all [D.dX,fits])
theorem Nn(l:List Sig)(af:Bs):NQ.Fn cx 146 [.slice 6 (l.map gK),.str af] (.d (.bool (lQ l af))) []:=by
 refine aT bo mixed Tryz.func146 ?_;conv=>whnf
 refine aj (λh=>?_) (λh=>?_) <;> (rw[h];conv=>whnf)
 . (refine al rfl ?_;show AV.d (D.bool false)=_;(try simp only[aA]at *);simp only[lQ, *, if_true,if_false,aY];done)
 .have hl:l.length<=6:=by simp at h;omega
  have hE:lQ l af=(List.range l.length).all (xD l af):=by
   simp only[aA]at h;simp only[lQ,h,if_true,if_false,aY]
  refine⟨Nat,λk=>⟨[(0,.d (.slice 6 (l.map gK))),(1,.d (.str af)),(10,.d (.slice 6 (l.map gK))),(11,.d (.int .i64 ((l.map gK).length:Int))),(12,.d (.int .i64 k))],[]⟩,λk=>k<=l.length/\(List.range k).all (xD l af)=true,λk=>l.length-k,⟨0,⟨by omega,rfl⟩,aK.keep ⟨ae,ae,ae,ae,ae,trivial⟩ trivial⟩,λk ⟨hk,hB⟩=>?_⟩;conv=>whnf
  refine aj (λh1=>?_) (λh1=>?_) <;> (rw[h1];conv=>whnf)
  .have hC:k<l.length:=by simp at h1;omega
   obtain⟨g,hg⟩:∃g,l[k]? =some g:=⟨_,au hC⟩
   obtain⟨f,hf⟩:∃f,l[0]? =some f:=⟨_,au (by omega)⟩
   obtain⟨p,hp⟩:∃p,l[k-1]? =some p:=⟨_,au (by omega)⟩
   have hG:=QZ (af:=af) hg hf hp;have hI:xD l af k=false->lQ l af=false:=λhh=>by rw[hE,eu hC hh]
   refine⟨aC k,gK g,aM hg,?_⟩;conv=>whnf
   repeat' (first
    |(refine aj (λh=>?_) (λh=>?_) <;> (rw[h];conv=>whnf))
    |(refine bV ?_;conv=>whnf)
    |(refine⟨(by decide:(0:Int)<=0),gK f,aM hf,?_⟩;conv=>whnf)
    |(refine⟨(mY (by assumption) (by omega)).1,gK p,lP (by assumption) (by omega) hp,?_⟩;conv=>whnf)
    |fail)
   all_goals first
    |(refine al rfl ?_;show AV.d (D.bool false)=_;rw[hI (by rw[hG];simp only[AY, *, if_true,if_false,aY])])
    |(refine⟨k+1,⟨by omega,?_⟩,by(show l.length-(k+1)<l.length-k;omega),aK.keep ⟨ae,ae,ae,ae,⟨ax (by omega),rfl⟩,trivial⟩ trivial⟩;rw[dU,hB,hG];simp only[AY, *, if_true,if_false,aY])
    |fail
  .refine al rfl ?_;obtain rfl:k=l.length:=by simp at h1;omega
   show AV.d (D.bool true)=_
   rw[hE,hB]
theorem Fk(s:Signed)(q:eP):NQ.Fn cx 206 [.agg (aw s),.agg (pn q)] (.d (.int .i64 (rA s.set.name s.set.type q.name q.type))) []:=by
 refine aT bo mixed Tryz.func206 ?_;conv=>whnf
 (refine⟨_,_,qA _ _ _ _,?_⟩;conv=>whnf)
 exact al rfl rfl
def plc(s:Signed)(q:eP):Int:=rA s.set.name s.set.type q.name q.type
def Split(l:List Signed)(q:eP)(c:Nat):Prop:=c<=l.length/\(∀i s,l[i]? =some s->i<c->plc s q<0)/\(∀i s,l[i]? =some s->c<=i->0<=plc s q)
def foundAt(l:List Signed)(q:eP)(c:Nat):Bool:=match l[c]? with|some s=>plc s q==0|none=>false
theorem NI{i j:Nat}(h:i+j<=1000000000):IntKind.i64.wrap ((IntKind.u64.wrap (IntKind.i64.wrap ((i:Int)+(j:Int)))).fdiv (2 ^ min (Int.toNat 1) IntKind.u64.bits))=(((i+j) / 2:Nat):Int):=by
 rw[show((2:Int) ^ min (Int.toNat 1) IntKind.u64.bits)=2 from rfl];have h1:IntKind.i64.wrap ((i:Int)+(j:Int))=((i+j:Nat):Int):=by rw[wrap_i64 (by omega) (by omega)];omega
 have h2:IntKind.u64.wrap ((i+j:Nat):Int)=((i+j:Nat):Int):=by simp[IntKind.wrap,IntKind.signed,IntKind.bits];omega
 rw[h1,h2,Int.fdiv_eq_ediv_of_nonneg _ (by decide),wrap_i64 (by omega) (by omega)];omega
theorem Of(l:List Signed)(q:eP)(c:Nat)(hl:l.length<=100000)(hc:Split l q c) :
 NQ.Fn cx 205 [.slice 5 (l.map aw),.agg (pn q),.fn 206 [] []] (.tuple [.d (.int .i64 c),.d (.bool (foundAt l q c))]) []:=by
 refine aT bo mixed Tryz.func205 ?_;conv=>whnf
 refine⟨Nat×Nat,λx=>⟨[(0,.d (.slice 5 (l.map aw))),(2,.d (.fn 206 [] [])),(4,.ptr 4 0),(8,.d (.int .i64 ((l.map aw).length:Int))),(9,.d (.int .i64 x.1)),(10,.d (.int .i64 x.2))],[(4,.box ((pn q).map .d))]⟩,
  λx=>x.1<=c/\c<=x.2/\x.2<=l.length,λx=>x.2-x.1,⟨(0,l.length),⟨by omega,hc.1,by omega⟩,aK.keep ⟨ae,ae,ae,ae,ae,⟨(by show AV.d (D.int _ _)=_;simp),rfl⟩,trivial⟩ ⟨ae,trivial⟩⟩,λ⟨i,j⟩ ⟨h1,h2,h3⟩=>?_⟩
 dsimp only at h1 h2 h3 ⊢;conv=>whnf
 refine aj (λh=>?_) (λh=>?_) <;> (rw[h];conv=>whnf)
 .have ku:i<j:=by simp at h;omega
  (refine bV ?_;conv=>whnf)
  rw[NI (by omega)];obtain⟨s,hs⟩:∃s,l[(i+j) / 2]? =some s:=⟨_,au (by omega)⟩
  refine⟨aC _,aw s,aM hs,?_⟩;conv=>whnf
  (refine⟨_,_,Fk s q,?_⟩;conv=>whnf)
  refine aj (λh=>?_) (λh=>?_) <;> (rw[h];conv=>whnf)
  .have hC:(i+j) / 2<c:=by
    rcases Nat.lt_or_ge ((i+j) / 2) c with hh|hh
    .exact hh
    .have:=hc.2.2 _ s hs hh;simp[plc]at h this;omega
   exact⟨((i+j) / 2+1,j),⟨by dsimp only;omega,h2,h3⟩,by dsimp only;omega,aK.keep ⟨ae,ae,ae,ae,⟨ax (by omega),rfl⟩,ae,trivial⟩ ⟨ae,trivial⟩⟩
  .have hW:c<=(i+j) / 2:=by
    rcases Nat.lt_or_ge ((i+j) / 2) c with hh|hh
    .have:=hc.2.1 _ s hs hh;simp[plc]at h this;omega
    .exact hh
   exact⟨(i,(i+j) / 2),⟨h1,hW,by dsimp only;omega⟩,by dsimp only;omega,aK.keep ⟨ae,ae,ae,ae,ae,ae,trivial⟩ ⟨ae,trivial⟩⟩
 .obtain rfl:i=c:=by simp at h;omega
  clear h
  (refine bV ?_;conv=>whnf)
  refine aj (λh=>?_) (λh=>?_) <;> (rw[h];conv=>whnf)
  .have hC:i<l.length:=by simp at h;omega
   obtain⟨s,hs⟩:∃s,l[i]? =some s:=⟨_,au hC⟩
   refine⟨aC _,aw s,aM hs,?_⟩;conv=>whnf
   (refine⟨_,_,Fk s q,?_⟩;conv=>whnf)
   refine al rfl ?_;show AV.tuple [AV.d (.int .i64 i),AV.d (.bool _)]=_
   simp[foundAt,plc,hs]
  .refine al rfl ?_;show AV.tuple [AV.d (.int .i64 i),AV.d (.bool _)]=_
   have:l[i]? =none:=by simp at h;simp;omega
   simp[foundAt,this]
theorem Sx(z:aO)(q:eP)(c:Nat)(hl:z.ak.length<=100000)(hc:Split z.ak q c) :
 NQ.Fn cx 144 [.agg (aX z),.agg (pn q)] (.tuple [.d (.int .i64 c),.d (.bool (foundAt z.ak q c))]) []:=by
 refine aT bo mixed Tryz.func144 ?_;conv=>whnf
 (refine⟨_,_,Of z.ak q c hl hc,?_⟩;conv=>whnf)
 exact al rfl rfl
def pk(af:Bs)(i:Nat)(s p:Signed):Bool:= !ee s.set|| !(bK s.set.name af).1||(!((i:Int)==0)&&decide (rA p.set.name p.set.type s.set.name s.set.type>=0))
def uy(z:aO)(i:Nat):Bool:=match z.ak[i]?, z.ak[i-1]? with|some s,some p=> !pk z.af i s p|_,_=>false
theorem zg{z:aO}{i:Nat}{s p:Signed}(h1:z.ak[i]? =some s)(h2:z.ak[i-1]? =some p):uy z i= !pk z.af i s p:=by simp only[uy,h1,h2]
def ordered(z:aO):Bool:= !((!bq z.af||lE z.af)||decide ((z.ak.length:Int)>20000))&&(List.range z.ak.length).all (uy z)
theorem Jl{k:Nat}(h:((k:Int)==0)=false):decide ((k:Int)>0)=true:=by simp at h ⊢;omega
theorem IB(s:Bs):Go.Lib.hasPrefix s [42]=lE s:=by
 unfold Go.Lib.hasPrefix lE;cases s with
 |nil=>rfl
 |cons c t=>simp only[List.isPrefixOf,List.head?_cons];rw[Bool.eq_iff_iff];simp;exact eq_comm
theorem JN(s:Bs):NQ.Fn cx 95 [.str s,.str [42]] (.d (.bool (lE s))) []:=by
 refine eY ⟨_,Tryz.func95,by kernel_rfl,by kernel_rfl⟩ rfl λw vs _ hK hD=>?_
 obtain⟨b,hb,rfl⟩:=fY (hD 0 _ rfl);obtain⟨c,hc,hS⟩:=fY (hD 1 _ rfl);rw[xJ hK,hb,hc];refine(Tryz.strings_HasPrefix _ _ _).mono ?_;rintro e w' ⟨rfl,rfl⟩;rw[hS,IB];exact⟨_,rfl,Below.refl _ _,.fL _⟩
theorem Lg(z:aO):NQ.Fn cx 84 [.agg (aX z)] (.d (.bool (ordered z))) []:=by
 refine aT bo mixed Tryz.func84 ?_;conv=>whnf
 repeat' (first|(refine⟨_,_,mU _,?_⟩;conv=>whnf)|(refine⟨_,_,JN _,?_⟩;conv=>whnf)|(refine aj (λh=>?_) (λh=>?_) <;> (rw[h];conv=>whnf))|(refine al rfl ?_;show AV.d (D.bool false)=_;(try simp only[aA]at *);simp only[ordered, *, if_true,if_false,aY];done)|fail)
 have hn:z.ak.length<=20000:=by simp at *; omega
 have hE:ordered z=(List.range z.ak.length).all (uy z):=by
  simp only[aA]at *;simp only[ordered, *, if_true,if_false,aY]
 refine⟨Nat,λk=>⟨[(1,.ptr 1 0),(28,.d (.slice 5 (z.ak.map aw))),(29,.d (.int .i64 ((z.ak.map aw).length:Int))),(30,.d (.int .i64 k))],[(1,.box ((aX z).map .d))]⟩,
  λk=>k<=z.ak.length/\(List.range k).all (uy z)=true,λk=>z.ak.length-k,⟨0,⟨by omega,rfl⟩,aK.keep ⟨ae,ae,ae,ae,trivial⟩ ⟨ae,trivial⟩⟩,λk ⟨hk,hB⟩=>?_⟩
 conv=>whnf
 refine aj (λh1=>?_) (λh1=>?_) <;> (rw[h1];conv=>whnf)
 .have hC:k<z.ak.length:=by simp at h1;omega
  obtain⟨s,hs⟩:∃s,z.ak[k]? =some s:=⟨_,au hC⟩
  obtain⟨p,hp⟩:∃p,z.ak[k-1]? =some p:=⟨_,au (by omega)⟩
  have hG:=zg hs hp;have hI:uy z k=false->ordered z=false:=λhh=>by rw[hE,eu hC hh]
  refine⟨aC k,aw s,aM hs,?_⟩;conv=>whnf
  repeat' (first
   |(refine⟨_,_,jI s.set,?_⟩;conv=>whnf)
   |(refine⟨_,_,od _ _,?_⟩;conv=>whnf)
   |(refine⟨_,_,qA _ _ _ _,?_⟩;conv=>whnf)
   |(refine aj (λh=>?_) (λh=>?_) <;> (rw[h];conv=>whnf))
   |(refine bV ?_;conv=>whnf)
   |(refine⟨(mY (Jl (by assumption)) (by omega)).1,aw p,lP (Jl (by assumption)) (by omega) hp,?_⟩;conv=>whnf)
   |fail)
  all_goals first
   |(refine al rfl ?_;show AV.d (D.bool false)=_;rw[hI (by rw[hG];simp only[pk, *, if_true,if_false,aY])])
   |(refine⟨k+1,⟨by omega,?_⟩,by(show z.ak.length-(k+1)<z.ak.length-k;omega),aK.keep ⟨ae,ae,ae,⟨ax (by omega),rfl⟩,trivial⟩ ⟨ae,trivial⟩⟩;rw[dU,hB,hG];simp only[pk, *, if_true,if_false,aY])
   |fail
 .refine al rfl ?_;obtain rfl:k=z.ak.length:=by simp at h1;omega
  show AV.d (D.bool true)=_
  rw[hE,hB]
def rE(z:aO)(i:Nat):Bool:=match z.ak[i]? with|some s=>fits s.set.type (s.set.name==z.af)|none=>false
def pM(has:Int->Bool)(z:aO):Bool:=has 4&&has 2&&(List.range z.ak.length).all (rE z)
theorem Et(z:aO)(hn:z.ak.length<=100000)(pos:Int->Nat)(has:Int->Bool)(hf:∀t,NQ.Fn cx 144 [.agg (aX z),.agg (pn ⟨z.af,t⟩)] (.tuple [.d (.int .i64 (pos t)),.d (.bool (has t))]) []) :
 NQ.Fn cx 85 [.agg (aX z)] (.d (.bool (pM has z))) []:=by
 refine aT bo mixed Tryz.func85 ?_;conv=>whnf
 refine⟨Nat,λk=>⟨[(1,.ptr 1 0),(9,.own 9),(10,.d (.int .i64 2)),(11,.d (.int .i64 k))],[(1,.box ((aX z).map .d)),(9,.row 3 1 [[.int .i64 4],[.int .i64 2]])]⟩,
  λk=>k<=2/\(0<k->has 4=true)/\(1<k->has 2=true),λk=>2-k,⟨0,⟨by omega,by omega,by omega⟩,aK.keep ⟨ae,ae,ae,ae,trivial⟩ ⟨ae,ae,trivial⟩⟩,λk ⟨hk,ha,hb⟩=>?_⟩
 conv=>whnf
 refine aj (λh1=>?_) (λh1=>?_) <;> (rw[h1];conv=>whnf)
 .have hC:k<2:=by simp at h1;omega
  have kv:k=0\/k=1:=by omega
  rcases kv with rfl|rfl
  .refine⟨by decide,by decide,?_⟩;conv=>whnf
   refine⟨[.int .i64 4],rfl,?_⟩;conv=>whnf
   (refine⟨_,_,hf 4,?_⟩;conv=>whnf)
   refine aj (λh=>?_) (λh=>?_) <;> (rw[h];conv=>whnf)
   .refine al rfl ?_;have h4:has 4=false:=by simpa using h
    simp[D.dX,pM,h4]
   .exact⟨1,⟨by omega,λ_=>by simpa using h,by omega⟩,by decide,aK.keep ⟨ae,ae,ae,⟨ax (by omega),rfl⟩,trivial⟩ ⟨ae,ae,trivial⟩⟩
  .refine⟨by decide,by decide,?_⟩;conv=>whnf
   refine⟨[.int .i64 2],rfl,?_⟩;conv=>whnf
   (refine⟨_,_,hf 2,?_⟩;conv=>whnf)
   refine aj (λh=>?_) (λh=>?_) <;> (rw[h];conv=>whnf)
   .refine al rfl ?_;have h4:has 2=false:=by simpa using h
    simp[D.dX,pM,h4]
   .exact⟨2,⟨by omega,λ_=>ha (by omega),λ_=>by simpa using h⟩,by decide,aK.keep ⟨ae,ae,ae,⟨ax (by omega),rfl⟩,trivial⟩ ⟨ae,ae,trivial⟩⟩
 .have h2:k=2:=by simp at h1;omega
  have h4:=ha (by omega);have h5:=hb (by omega);have hE:pM has z=(List.range z.ak.length).all (rE z):=by simp only[pM,h4,h5,if_true,if_false,aY]
  clear h1 ha hb;refine⟨Nat,λk=>⟨[(1,.ptr 1 0),(30,.d (.slice 5 (z.ak.map aw))),(31,.d (.int .i64 ((z.ak.map aw).length:Int))),(32,.d (.int .i64 k))],[(1,.box ((aX z).map .d))]⟩,
   λk=>k<=z.ak.length/\(List.range k).all (rE z)=true,λk=>z.ak.length-k,⟨0,⟨by omega,rfl⟩,aK.keep ⟨ae,ae,ae,ae,trivial⟩ ⟨ae,trivial⟩⟩,λk ⟨hk,hB⟩=>?_⟩
  conv=>whnf
  refine aj (λh1=>?_) (λh1=>?_) <;> (rw[h1];conv=>whnf)
  .have hC:k<z.ak.length:=by simp at h1;omega
   obtain⟨s,hs⟩:∃s,z.ak[k]? =some s:=⟨_,au hC⟩
   have hG:rE z k=fits s.set.type (s.set.name==z.af):=by simp only[rE,hs]
   have hI:rE z k=false->pM has z=false:=λhh=>by rw[hE,eu hC hh]
   refine⟨aC k,aw s,aM hs,?_⟩;conv=>whnf
   repeat' (first|(refine⟨_,_,Hs _ _,?_⟩;conv=>whnf)|(refine aj (λh=>?_) (λh=>?_) <;> (rw[h];conv=>whnf))|(refine bV ?_;conv=>whnf)|fail)
   all_goals first
    |(refine al rfl ?_;show AV.d (D.bool false)=_;rw[hI (by rw[hG];simp_all)])
    |(refine⟨k+1,⟨by omega,?_⟩,by(show z.ak.length-(k+1)<z.ak.length-k;omega),aK.keep ⟨ae,ae,ae,⟨ax (by omega),rfl⟩,trivial⟩ ⟨ae,trivial⟩⟩;rw[dU,hB,hG];simp_all)
    |fail
  .refine al rfl ?_;obtain rfl:k=z.ak.length:=by simp at h1;omega
   show AV.d (D.bool true)=_
   rw[hE,hB]
def ck(s:Bs):List D:=[.str s]
def sw(z:aO)(b:List Bs):List D:=[.str z.af,.slice 5 (z.ak.map aw),.slice 1 (b.map ck)]
def vg(n i:Nat)(s p x:Signed):Bool :=
 !(s.set.type != 3)&&((decide ((i:Int)>0)&&(p.set.name==s.set.name))||(decide (((i:Nat):Int)+1<(n:Int))&&(x.set.name==s.set.name)&&(x.set.type != 8)))
def oM(z:aO)(i:Nat):Bool :=
 match z.ak[i]? with
 |some s=> !vg z.ak.length i s ((z.ak[i-1]?).getD s) ((z.ak[i+1]?).getD s)
 |none=>false
def aliases(z:aO):Bool:=(List.range z.ak.length).all (oM z)
def qB(s:Signed)(b:Bs):Bool :=
 if (b==[])=true then s.set.type==6
 else if (b==s.set.name)=true then(s.set.type != 2)&&(s.set.type != 6)&&(s.set.type != 8)&&(s.set.type != 1)
 else s.set.type != 1
def cutAt(z:aO)(b:List Bs)(i:Nat):Bool:=match z.ak[i]?, b[i]? with|some s,some x=> !qB s x|_,_=>false
def tV(z:aO)(b:List Bs):Bool:=(List.range z.ak.length).all (cutAt z b)
def qW(s:Signed)(b:Bs):Bool:=(!(b==[])&&((s.set.type==2)||(s.set.type==1)))&&decide ((s.sigs.length:Int)>0)
def uI(z:aO)(b:List Bs)(i:Nat):Bool:=match z.ak[i]?, b[i]? with|some s,some x=> !qW s x|_,_=>false
def uJ(z:aO)(b:List Bs):Bool:=(List.range z.ak.length).all (uI z b)
def pT(z:aO)(i:Nat):Bool:=match z.ak[i]? with|some s=>lQ s.sigs z.af|none=>false
def ud(z:aO):Bool:=(List.range z.ak.length).all (pT z)
theorem wrap_add{k:Nat}(hk:k<=4611686018427387904):IntKind.i64.wrap ((k:Int)+1)=(k:Int)+1:=wrap_i64 (by omega) (by omega)
theorem QF{α:Type}{f:α->List D}{l:List α}{k:Nat}{g:α}(hg:l[k+1]? =some g):(l.map f)[((k:Int)+1).toNat]? =some (f g):=by
 rw[show((k:Int)+1).toNat=k+1 by omega];simp[hg]
theorem BA(z:aO)(b:List Bs)(hn:z.ak.length<=100000):NQ.Fn cx 87 [.agg (sw z b)] (.d (.bool (aliases z))) []:=by
 refine aT bo mixed Tryz.func87 ?_;conv=>whnf
 have hE:aliases z=(List.range z.ak.length).all (oM z):=rfl;refine⟨Nat,λk=>⟨[(1,.ptr 1 0),(8,.d (.slice 5 (z.ak.map aw))),(9,.d (.int .i64 ((z.ak.map aw).length:Int))),(10,.d (.int .i64 k))],[(1,.box ((sw z b).map .d))]⟩,λk=>k<=z.ak.length/\(List.range k).all (oM z)=true,λk=>z.ak.length-k,⟨0,⟨by omega,rfl⟩,aK.keep ⟨ae,ae,ae,ae,trivial⟩ ⟨ae,trivial⟩⟩,λk ⟨hk,hB⟩=>?_⟩;(conv=>whnf);refine aj (λh1=>?_) (λh1=>?_) <;> (rw[h1];conv=>whnf)
 .have hC:k<z.ak.length:=by simp at h1;omega
  obtain⟨s,hs⟩:∃s,z.ak[k]? =some s:=⟨_,au hC⟩
  obtain⟨p,hp⟩:∃p,z.ak[k-1]? =some p:=⟨_,au (by omega)⟩
  obtain⟨x,hx⟩:∃x,x=(z.ak[k+1]?).getD s:=⟨_,rfl⟩
  have hG:oM z k= !vg z.ak.length k s p x:=by simp only[oM,hs,hp,Option.getD_some, <- hx]
  have hI:oM z k=false->aliases z=false:=λhh=>by rw[hE,eu hC hh]
  have kF:k+1<z.ak.length->z.ak[k+1]? =some x:=λhq=>by rw[hx,au hq];rfl
  clear hx;have hw:=wrap_add (k:=k) (by omega);refine⟨aC k,aw s,aM hs,?_⟩;conv=>whnf
  repeat' (first
   |(refine bV ?_;conv=>whnf)
   |(refine al rfl ?_;show AV.d (D.bool false)=_;(try simp only[aA]at *);rw[hI (by rw[hG];simp only[vg, *, if_true,if_false,aY])];done)
   |(refine⟨k+1,⟨by omega,?_⟩,by(show z.ak.length-(k+1)<z.ak.length-k;omega),aK.keep ⟨ae,ae,ae,⟨ax (by omega),rfl⟩,trivial⟩ ⟨ae,trivial⟩⟩;rw[dU,hB,hG];((try simp only[aA]at *);simp only[vg, *, if_true,if_false,aY];done))
   |(rw[hw];(refine aj (λh=>?_) (λh=>?_) <;> (rw[h];conv=>whnf)))
   |(refine aj (λh=>?_) (λh=>?_) <;> (rw[h];conv=>whnf))
   |(refine⟨(mY (by assumption) (by omega)).1,aw p,lP (by assumption) (by omega) hp,?_⟩;conv=>whnf)
   |(rw[hw];refine⟨by omega,aw x,QF (by have hq:= ‹decide (((k:Nat):Int)+1<_)=true›;exact kF (by simp at hq;omega)),?_⟩;conv=>whnf)
   |fail)
 . (refine al rfl ?_;obtain rfl:k=z.ak.length:=(by simp at h1;omega);show AV.d (D.bool true)=_;rw[hE,hB])
theorem Ho(z:aO)(b:List Bs)(hn:z.ak.length<=100000)(hb:b.length=z.ak.length):NQ.Fn cx 88 [.agg (sw z b)] (.d (.bool (tV z b))) []:=by
 refine aT bo mixed Tryz.func88 ?_;conv=>whnf
 have hE:tV z b=(List.range z.ak.length).all (cutAt z b):=rfl;refine⟨Nat,λk=>⟨[(1,.ptr 1 0),(9,.d (.slice 5 (z.ak.map aw))),(10,.d (.int .i64 ((z.ak.map aw).length:Int))),(11,.d (.int .i64 k))],[(1,.box ((sw z b).map .d))]⟩,λk=>k<=z.ak.length/\(List.range k).all (cutAt z b)=true,λk=>z.ak.length-k,⟨0,⟨by omega,rfl⟩,aK.keep ⟨ae,ae,ae,ae,trivial⟩ ⟨ae,trivial⟩⟩,λk ⟨hk,hB⟩=>?_⟩;(conv=>whnf);refine aj (λh1=>?_) (λh1=>?_) <;> (rw[h1];conv=>whnf)
 .have hC:k<z.ak.length:=by simp at h1;omega
  obtain⟨s,hs⟩:∃s,z.ak[k]? =some s:=⟨_,au hC⟩
  obtain⟨x,hx⟩:∃x,b[k]? =some x:=⟨_,au (by omega)⟩
  have hG:cutAt z b k= !qB s x:=by simp only[cutAt,hs,hx]
  have hI:cutAt z b k=false->tV z b=false:=λhh=>by rw[hE,eu hC hh]
  refine⟨aC k,aw s,aM hs,?_⟩;conv=>whnf
  repeat' (first
   |(refine bV ?_;conv=>whnf)
   |(refine al rfl ?_;show AV.d (D.bool false)=_;(try simp only[aA]at *);rw[hI (by rw[hG];simp only[qB, *, if_true,if_false,aY])];done)
   |(refine⟨k+1,⟨by omega,?_⟩,by(show z.ak.length-(k+1)<z.ak.length-k;omega),aK.keep ⟨ae,ae,ae,⟨ax (by omega),rfl⟩,trivial⟩ ⟨ae,trivial⟩⟩;rw[dU,hB,hG];((try simp only[aA]at *);simp only[qB, *, if_true,if_false,aY];done))
   |(refine⟨aC k,ck x,aM hx,?_⟩;conv=>whnf)
   |(refine aj (λh=>?_) (λh=>?_) <;> (rw[h];conv=>whnf))
   |fail)
 . (refine al rfl ?_;obtain rfl:k=z.ak.length:=(by simp at h1;omega);show AV.d (D.bool true)=_;rw[hE,hB])
theorem It(z:aO)(b:List Bs)(hn:z.ak.length<=100000)(hb:b.length=z.ak.length):NQ.Fn cx 89 [.agg (sw z b)] (.d (.bool (uJ z b))) []:=by
 refine aT bo mixed Tryz.func89 ?_;conv=>whnf
 have hE:uJ z b=(List.range z.ak.length).all (uI z b):=rfl;refine⟨Nat,λk=>⟨[(1,.ptr 1 0),(9,.d (.slice 5 (z.ak.map aw))),(10,.d (.int .i64 ((z.ak.map aw).length:Int))),(11,.d (.int .i64 k))],[(1,.box ((sw z b).map .d))]⟩,λk=>k<=z.ak.length/\(List.range k).all (uI z b)=true,λk=>z.ak.length-k,⟨0,⟨by omega,rfl⟩,aK.keep ⟨ae,ae,ae,ae,trivial⟩ ⟨ae,trivial⟩⟩,λk ⟨hk,hB⟩=>?_⟩;(conv=>whnf);refine aj (λh1=>?_) (λh1=>?_) <;> (rw[h1];conv=>whnf)
 .have hC:k<z.ak.length:=by simp at h1;omega
  obtain⟨s,hs⟩:∃s,z.ak[k]? =some s:=⟨_,au hC⟩
  obtain⟨x,hx⟩:∃x,b[k]? =some x:=⟨_,au (by omega)⟩
  have hG:uI z b k= !qW s x:=by simp only[uI,hs,hx]
  have hI:uI z b k=false->uJ z b=false:=λhh=>by rw[hE,eu hC hh]
  refine⟨aC k,aw s,aM hs,?_⟩;conv=>whnf
  repeat' (first
   |(refine bV ?_;conv=>whnf)
   |(refine al rfl ?_;show AV.d (D.bool false)=_;(try simp only[aA]at *);rw[hI (by rw[hG];simp only[qW, *, if_true,if_false,aY])];done)
   |(refine⟨k+1,⟨by omega,?_⟩,by(show z.ak.length-(k+1)<z.ak.length-k;omega),aK.keep ⟨ae,ae,ae,⟨ax (by omega),rfl⟩,trivial⟩ ⟨ae,trivial⟩⟩;rw[dU,hB,hG];((try simp only[aA]at *);simp only[qW, *, if_true,if_false,aY];done))
   |(refine⟨aC k,ck x,aM hx,?_⟩;conv=>whnf)
   |(refine aj (λh=>?_) (λh=>?_) <;> (rw[h];conv=>whnf))
   |fail)
 . (refine al rfl ?_;obtain rfl:k=z.ak.length:=(by simp at h1;omega);show AV.d (D.bool true)=_;rw[hE,hB])
theorem Fs(z:aO)(b:List Bs)(hn:z.ak.length<=100000):NQ.Fn cx 90 [.agg (sw z b)] (.d (.bool (ud z))) []:=by
 refine aT bo mixed Tryz.func90 ?_;conv=>whnf
 have hE:ud z=(List.range z.ak.length).all (pT z):=rfl;refine⟨Nat,λk=>⟨[(1,.ptr 1 0),(8,.d (.slice 5 (z.ak.map aw))),(9,.d (.int .i64 ((z.ak.map aw).length:Int))),(10,.d (.int .i64 k))],[(1,.box ((sw z b).map .d))]⟩,λk=>k<=z.ak.length/\(List.range k).all (pT z)=true,λk=>z.ak.length-k,⟨0,⟨by omega,rfl⟩,aK.keep ⟨ae,ae,ae,ae,trivial⟩ ⟨ae,trivial⟩⟩,λk ⟨hk,hB⟩=>?_⟩;(conv=>whnf);refine aj (λh1=>?_) (λh1=>?_) <;> (rw[h1];conv=>whnf)
 .have hC:k<z.ak.length:=by simp at h1;omega
  obtain⟨s,hs⟩:∃s,z.ak[k]? =some s:=⟨_,au hC⟩
  have hG:pT z k= !(!lQ s.sigs z.af):=by simp only[pT,hs,OM]
  have hI:pT z k=false->ud z=false:=λhh=>by rw[hE,eu hC hh]
  refine⟨aC k,aw s,aM hs,?_⟩;conv=>whnf
  repeat' (first
   |(refine bV ?_;conv=>whnf)
   |(refine al rfl ?_;show AV.d (D.bool false)=_;(try simp only[aA]at *);rw[hI (by rw[hG];simp only[pT, *, if_true,if_false,aY])];done)
   |(refine⟨k+1,⟨by omega,?_⟩,by(show z.ak.length-(k+1)<z.ak.length-k;omega),aK.keep ⟨ae,ae,ae,⟨ax (by omega),rfl⟩,trivial⟩ ⟨ae,trivial⟩⟩;rw[dU,hB,hG];((try simp only[aA]at *);simp only[pT, *, if_true,if_false,aY];done))
   |(refine⟨_,_,Nn s.sigs z.af,?_⟩;conv=>whnf)
   |(refine aj (λh=>?_) (λh=>?_) <;> (rw[h];conv=>whnf))
   |fail)
 . (refine al rfl ?_;obtain rfl:k=z.ak.length:=(by simp at h1;omega);show AV.d (D.bool true)=_;rw[hE,hB])
def jT(af:Bs)(s:Signed):Bool:=(s.set.type==2)&& !(s.set.name==af)
def kP(af:Bs):List Signed->List (Bs×D)->List (Bs×D)
 |[],m=>m
 |s::t,m=>kP af t (if jT af s=true then cM s.set.name (.bool true) m else m)
def gp(af:Bs)(l:List Signed)(n:Bs):Bool:=l.any λs=>jT af s&&(s.set.name==n)
theorem qg(k n:Bs)(v:D):∀m,bG n (cM k v m)=if n=k then some v else bG n m
 |[]=>by simp only[cM,bG]
 |(k',v')::t=>by
  simp only[cM];by_cases h:k=k'
  .subst h;simp only[if_true,bG];by_cases h2:n=k <;> simp only[h2,if_true,if_false]
  .simp only[h,if_false,bG,qg k n v t];by_cases h2:n=k'
   .subst h2;have h3:¬n=k:=λe=>h e.symm
    simp only[if_true,h3,if_false]
   .simp only[h2,if_false]
theorem xW(af n:Bs):∀(l:List Signed) (m:List (Bs×D)),bG n (kP af l m)=if gp af l n=true then some (.bool true)else bG n m
 |[],m=>by simp[kP,gp]
 |s::t,m=>by
  rw[kP,xW af n t];by_cases h:jT af s=true
  .rw[if_pos h,qg];by_cases hn:n=s.set.name
   .subst hn;simp[gp,h]
   .have kB :(s.set.name==n)=false:=by simpa using λe=>hn e.symm
    simp only[hn,if_false,gp,List.any_cons,h,kB,ma,ka]
  .have h' :jT af s=false:=by simpa using h
   simp only[gp,List.any_cons,h',wX,ka,fR,if_false]
def la(cut:Bs->Bool)(c n:Bs):Bs :=
 let c' :=if (!(c==[])&& !(bK n c).1)=true then[]else c
 if ((c' ==[])&&cut n)=true then n else c'
def bh(cut:Bs->Bool):Bs->List Signed->List Bs
 |_,[]=>[]
 |c,s::t=>la cut c s.set.name::bh cut (la cut c s.set.name) t
def dK(z:aO):List Bs:=bh (gp z.af z.ak) [] z.ak
theorem vl(cut:Bs->Bool):∀(c:Bs) (l:List Signed),(bh cut c l).length=l.length
 |_,[]=>rfl
 |c,s::t=>by simp[bh,vl cut _ t]
theorem Tn(done:List Bs)(n:Nat)(c:Bs):(done++List.replicate (n+1) []).set done.length c=(done++[c])++List.replicate n []:=by
 rw[List.replicate_succ,List.set_append];simp
theorem xX(af:Bs)(s:Signed):∀(l:List Signed) (m:List (Bs×D)),kP af (l++[s]) m=if jT af s=true then cM s.set.name (.bool true) (kP af l m)else kP af l m
 |[],m=>rfl
 |x::t,m=>by rw[List.cons_append,kP,kP,xX af s t]
theorem bO{α:Type}{l:List α}{k:Nat}{x:α}(h:l[k]? =some x):l.take (k+1)=l.take k++[x]:=by
 rw[List.take_add_one,h];rfl
theorem NP{b:Bool}(h:(!b)=false)(h' :b=false):False:=by subst h';cases h
theorem NA(z:aO)(hn:z.ak.length<=100000):NQ.Fn cx 86 [.agg (aX z)] (.agg ((sw z (dK z)).map .d)) []:=by
 refine aT bo mixed Tryz.func86 ?_;conv=>whnf
 refine ⟨Nat, fun k => ⟨[(1, .ptr 1 0), (2, .ptr 2 0), (3, .omap 13), (16, .d (.slice 5 (z.ak.map aw))), (17, .d (.int .i64 ((z.ak.map aw).length : Int))), (18, .d (.int .i64 k))],
     [(1,.box ((aX z).map .d)),(2,.box [.d (.str []),.nil 5,.nil 1]),(13,.smap (kP z.af (z.ak.take k) []))]⟩,
  λk=>k<=z.ak.length,λk=>z.ak.length-k,⟨0,by omega,aK.keep ⟨ae,ae,ae,ae,ae,ae,trivial⟩ ⟨ae,ae,ae,trivial⟩⟩,λk hk=>?_⟩
 conv=>whnf
 refine aj (λh1=>?_) (λh1=>?_) <;> (rw[h1];conv=>whnf)
 .have hC:k<z.ak.length:=by simp at h1;omega
  obtain⟨s,hs⟩:∃s,z.ak[k]? =some s:=⟨_,au hC⟩
  refine⟨aC k,aw s,aM hs,?_⟩;conv=>whnf
  have hm:=xX z.af s (z.ak.take k) [];rw[<- bO hs]at hm
  repeat' (first
   |(refine bV ?_;conv=>whnf)
   |(refine⟨k+1,hC,by(show z.ak.length-(k+1)<z.ak.length-k;omega),aK.keep ⟨ae,ae,ae,ae,ae,⟨ax (by omega),rfl⟩,trivial⟩ ⟨ae,ae,⟨?_,rfl⟩,trivial⟩⟩;show some (Blk.smap _)=some (Blk.smap _);rw[hm];simp only[jT, *, if_true,if_false,aY];done)
   |(refine aj (λh=>?_) (λh=>?_) <;> (rw[h];conv=>whnf))
   |fail)
 .obtain rfl:k=z.ak.length:=by simp at h1;omega
  (refine bV ?_;conv=>whnf)
  refine⟨by omega,.inl rfl,by omega,by(simp only[aA];omega),by(simp only[aA];omega),?_⟩;conv=>whnf
  refine ⟨Nat × Bs × List Bs, fun x => ⟨[(1, .ptr 1 0), (2, .ptr 2 0), (3, .omap 13), (6, .ptr 6 0), (7, .d (.str x.2.1)), (49, .d (.slice 5 (z.ak.map aw))), (50, .d (.int .i64 ((z.ak.map aw).length : Int))), (51, .d (.int .i64 x.1))],
      [(1,.box ((aX z).map .d)),(2,.box [.d (.str []),.nil 5,.nil 1]),(13,.smap (kP z.af z.ak [])),(45,.row 9 1 ((x.2.2++List.replicate (z.ak.length-x.1) []).map ck) true),(6,.box [.d (.str z.af),.d (.slice 5 (z.ak.map aw)),.own 45])]⟩,
   λx=>x.1<=z.ak.length/\x.2.2.length=x.1/\x.2.2++bh (gp z.af z.ak) x.2.1 (z.ak.drop x.1)=dK z,λx=>z.ak.length-x.1,
   ⟨(0,[],[]),⟨by simp,rfl,rfl⟩,aK.keep ⟨ae,ae,ae,ae,ae,ae,ae,ae,trivial⟩ ⟨ae,ae,⟨by(show some (Blk.smap (kP z.af (z.ak.take z.ak.length) []))=_;rw[List.take_length]),rfl⟩,⟨by(show some (Blk.row _ _ (List.replicate ((z.ak.map aw).length:Int).toNat _) true)=some (Blk.row _ _ _ true);simp[ck];done),rfl⟩,ae,trivial⟩⟩,?_⟩
  rintro⟨k,c,done⟩ ⟨hk,hd,hB⟩;simp only at hk hd hB;conv=>whnf
  refine aj (λh1=>?_) (λh1=>?_) <;> (rw[h1];conv=>whnf)
  .have hC:k<z.ak.length:=by simp at h1;omega
   obtain⟨s,hs⟩:∃s,z.ak[k]? =some s:=⟨_,au hC⟩
   refine⟨aC k,aw s,aM hs,?_⟩;conv=>whnf
   have hV:z.ak.drop k=s::z.ak.drop (k+1):=by
    obtain⟨hl,he⟩:=aB.mp hs;rw[List.drop_eq_getElem_cons hC,he]
   have kk:k<((done++List.replicate (z.ak.length-k) []).map ck).length:=by simp;omega
   have hD:List.replicate (z.ak.length-k) ([]:Bs)=List.replicate ((z.ak.length-(k+1))+1) []:=by congr 1;omega
   have hL:∀c',((done++List.replicate (z.ak.length-k) []).map ck).set k (ck c')=((done++[c'])++List.replicate (z.ak.length-(k+1)) []).map ck:=λc' =>by
    rw[hD, <- Tn done _ c',List.map_set,hd]
   rw[hV,bh]at hB;have kf:∀c',la (gp z.af z.ak) c s.set.name=c' ->(done++[c'])++bh (gp z.af z.ak) c' (z.ak.drop (k+1))=dK z:=λc' e=>by
    rw[<- hB,e,List.append_assoc];rfl
   have hf:=xW z.af s.set.name z.ak [];clear hB hk;obtain⟨q,hq⟩:∃q,gp z.af z.ak s.set.name=q:=⟨_,rfl⟩
   rw[hq]at hf;have e0:(⟨#[]⟩:ByteArray).data.toList=[]:=rfl;have kC:((done++List.replicate (z.ak.length-k) []).map ck)[k]? =some (ck []):=by
    rw[bc,cL (by omega),List.getElem?_replicate,if_pos (by omega)];rfl
   repeat' (first
    |(refine⟨_,_,od _ _,?_⟩;conv=>whnf)
    |(refine bV ?_;conv=>whnf)
    |(refine aj (λh=>?_) (λh=>?_) <;> (rw[h];conv=>whnf))
    |(rcases q with _|_ <;> ((try simp only[fR,if_false,if_true,bG]at hf);rw[hf];conv=>whnf))
    |exact(NP (b:=c==[]) (by assumption) (by assumption)).elim
    |(refine⟨aC k,kk,?_⟩;conv=>whnf)
    |(refine⟨_,kC,?_⟩;conv=>whnf)
    |(refine⟨(k+1,c,done++[c]),⟨hC,by simp[hd],kf _ (by(try simp only[e0]at *);simp only[la, *, if_true,if_false,aY,beq_self_eq_true];done)⟩,by(show z.ak.length-(k+1)<z.ak.length-k;omega),aK.keep ⟨ae,ae,ae,ae,ae,ae,ae,⟨ax (by omega),rfl⟩,trivial⟩ ⟨ae,ae,ae,⟨by(show some (Blk.row _ _ (List.set _ k (ck (c))) true)=some (Blk.row _ _ _ true);rw[hL]),rfl⟩,ae,trivial⟩⟩;done)
    |(refine⟨(k+1,[],done++[[]]),⟨hC,by simp[hd],kf _ (by(try simp only[e0]at *);simp only[la, *, if_true,if_false,aY,beq_self_eq_true];done)⟩,by(show z.ak.length-(k+1)<z.ak.length-k;omega),aK.keep ⟨ae,ae,ae,ae,ae,ae,ae,⟨ax (by omega),rfl⟩,trivial⟩ ⟨ae,ae,ae,⟨by(show some (Blk.row _ _ (List.set _ k (ck ([]))) true)=some (Blk.row _ _ _ true);rw[hL]),rfl⟩,ae,trivial⟩⟩;done)
    |(refine⟨(k+1,s.set.name,done++[s.set.name]),⟨hC,by simp[hd],kf _ (by(try simp only[e0]at *);simp only[la, *, if_true,if_false,aY,beq_self_eq_true];done)⟩,by(show z.ak.length-(k+1)<z.ak.length-k;omega),aK.keep ⟨ae,ae,ae,ae,ae,ae,ae,⟨ax (by omega),rfl⟩,trivial⟩ ⟨ae,ae,ae,⟨by(show some (Blk.row _ _ (List.set _ k (ck (s.set.name))) true)=some (Blk.row _ _ _ true);rw[hL]),rfl⟩,ae,trivial⟩⟩;done)
    |fail)
  .refine al rfl ?_;obtain rfl:k=z.ak.length:=by simp at h1;omega
   simp only[List.drop_length,bh,List.append_nil]at hB;show AV.agg [_,_,AV.d (.slice 1 ((done++List.replicate (z.ak.length-z.ak.length) []).map ck))]=_
   rw[Nat.sub_self,List.replicate_zero,List.append_nil,hB];rfl
theorem tR:jD dA where
 range:=λa b=>by unfold dA;(repeat' split) <;> omega
 zero:=λa b=>by unfold dA;(repeat' split) <;> omega
 lH:=λa b=>by unfold dA;(repeat' split) <;> omega
 lt:=λa b c=>by unfold dA;(repeat' split) <;> omega
theorem cT:jD bX where
 range:=λa b=>oq.range _ _
 zero:=λa b=>⟨λh=>yG ((oq.zero _ _).1 h),λh=>by subst h;exact(oq.zero _ _).2 rfl⟩
 lH:=λa b=>oq.lH _ _
 lt:=λa b c=>oq.lt _ _ _
def lex{α β:Type}(c:α->α->Int)(e:β->β->Int)(p q:α×β):Int:=if c p.1 q.1=0 then e p.2 q.2 else c p.1 q.1
theorem BV{α β:Type}{c:α->α->Int}{e:β->β->Int}(hc:jD c)(he:jD e):jD (lex c e) where
 range:=λa b=>by unfold lex;split;exact he.range _ _;exact hc.range _ _
 zero:=λa b=>by
  unfold lex;split
  .rename_i h;rw[he.zero,Prod.ext_iff];exact⟨λk=>⟨(hc.zero _ _).1 h,k⟩,λk=>k.2⟩
  .rename_i h;exact⟨λk=>absurd k h,λk=>absurd ((hc.zero _ _).2 (by rw[k])) h⟩
 lH:=λa b=>by
  unfold lex;rw[hc.lH a.1 b.1];by_cases h:c a.1 b.1=0
  .rw[if_pos h,if_pos (by omega),he.lH]
  .rw[if_neg h,if_neg (by omega)]
 lt:=λa b d=>by
  unfold lex;intro h1 h2;by_cases k1:c a.1 b.1=0
  .have e1:=(hc.zero _ _).1 k1;rw[if_pos k1]at h1;rw[e1];by_cases k2:c b.1 d.1=0
   .rw[if_pos k2]at h2 ⊢;exact he.lt _ _ _ h1 h2
   .rw[if_neg k2]at h2 ⊢;exact h2
  .rw[if_neg k1]at h1;by_cases k2:c b.1 d.1=0
   .have e2:=(hc.zero _ _).1 k2;rw[<- e2,if_neg k1];exact h1
   .rw[if_neg k2]at h2;have h3:=hc.lt _ _ _ h1 h2;rw[if_neg (by omega)];exact h3
abbrev cpl:Bs×Int->Bs×Int->Int:=lex bX dA
theorem ml:jD cpl:=BV cT tR
theorem yJ{a b:Bs}(s t:Int)(ha:bq a=true)(hb:bq b=true):rA a s b t=cpl (a,s) (b,t):=by
 unfold rA cpl lex fg;simp only[ha,hb,and_self,if_true,cT.zero]
def Signed.place(s:Signed):Bs×Int:=(s.set.name,s.set.type)
def eP.place(q:eP):Bs×Int:=(q.name,q.type)
def ic:List Signed->Prop
 |[]=>True
 |[_]=>True
 |a::b::t=>cpl a.place b.place<0/\ic (b::t)
theorem UQ{a b c:Bs×Int}(h1:0<=cpl a c)(h2:cpl a b<0):0<=cpl b c:=by
 rcases ml.range b c with h|h|h
 .rcases ml.range a b with k|k|k
  .have:=ml.lt a b c k h;omega
  .omega
  .omega
 .omega
 .omega
theorem CV{q:Bs×Int}:∀{l:List Signed} {x:Signed},ic (x::l)->0<=cpl x.place q-> ∀s∈l,0<=cpl s.place q
 |[],_,_,_,s,hs=>by cases hs
 |y::t,x,h,hx,s,hs=>by
  have hy:=UQ hx h.1;rcases List.mem_cons.1 hs with rfl|hs
  .exact hy
  .exact CV h.2 hy s hs
theorem nz:∀{l:List Signed} {x:Signed},ic (x::l)-> ∀s∈l,cpl x.place s.place<0
 |[],_,_,s,hs=>by cases hs
 |y::t,x,h,s,hs=>by
  rcases List.mem_cons.1 hs with rfl|hs
  .exact h.1
  .have h1:=nz h.2 s hs;have h2:=h.1;rcases ml.range x.place y.place with a|a|a <;> rcases ml.range y.place s.place with b|b|b <;> first|omega|skip
   have:=ml.lt _ _ _ a b;omega
theorem ic.tail{x:Signed}:∀{l:List Signed},ic (x::l)->ic l
 |[],_=>trivial
 |_::_,h=>h.2
def posOf(l:List Signed)(q:eP):Nat:=(l.takeWhile λs=>decide (cpl s.place q.place<0)).length
def is(q:eP)(s:Signed):Bool:=(s.set.name==q.name)&&(s.set.type==q.type)
def nL(l:List Signed)(q:eP):Bool:=l.any (is q)
theorem wa(q:eP)(s:Signed):is q s=true ↔ s.place=q.place:=by
 simp[is,Signed.place,eP.place]
theorem NY{s:Signed}{q:eP}(hs:bq s.set.name=true)(hq:bq q.name=true):plc s q=cpl s.place q.place:=yJ _ _ hs hq
theorem Gx(q:eP)(hq:bq q.name=true):∀(l:List Signed),ic l->(∀s∈l,bq s.set.name=true)->Split l q (posOf l q)/\foundAt l q (posOf l q)=nL l q
 |[],_,_=>⟨⟨Nat.le_refl _,λi s h=>(by cases h),λi s h=>(by cases h)⟩,rfl⟩
 |x::l,h,hv=>by
  have hx:=NY (hv x (List.mem_cons_self ..)) hq;by_cases hC:cpl x.place q.place<0
  .have hp:posOf (x::l) q=posOf l q+1:=by simp[posOf,List.takeWhile_cons,hC]
   obtain⟨⟨h1,h2,h3⟩,h4⟩:=Gx q hq l h.tail λs hs=>hv s (bC _ hs)
   rw[hp];refine⟨⟨by simp;exact h1,?_,?_⟩,?_⟩
   .intro i s hs hi;cases i with
    |zero=>cases hs;omega
    |succ i=>exact h2 i s hs (by omega)
   .intro i s hs hi;cases i with
    |zero=>omega
    |succ i=>exact h3 i s hs (by omega)
   .have hJ:is q x=false:=by
     cases hi:is q x with
     |false=>rfl
     |true=>rw[(wa q x).1 hi,(ml.zero _ _).2 rfl]at hC;omega
    unfold foundAt at h4 ⊢;rw[List.getElem?_cons_succ,h4];simp[nL,hJ]
  .have hp:posOf (x::l) q=0:=by simp[posOf,List.takeWhile_cons,hC]
   have hW:0<=cpl x.place q.place:=by omega
   rw[hp];refine⟨⟨by omega,λi s _ hi=>by omega,?_⟩,?_⟩
   .intro i s hs _;have hm:=aD hs;rw[NY (hv s hm) hq];rcases List.mem_cons.1 hm with rfl|hm
    .exact hW
    .exact CV h hW s hm
   .show(plc x q==0)=_
    rw[hx];have hb:(cpl x.place q.place==0)=is q x:=by
     rw[Bool.eq_iff_iff,beq_iff_eq,ml.zero,wa]
    rw[hb];cases hi:is q x with
    |true=>simp[nL,hi]
    |false =>
     have:nL l q=false:=by
      simp only[nL,List.any_eq_false];intro s hs kD;have h1:=nz h s hs;rw[(wa q s).1 kD]at h1;omega
     simp only[nL,List.any_cons,hi,ka]at this ⊢;exact this.symm
structure Ordered(z:aO):Prop where
 af:bq z.af=true
 Ro:lE z.af=false
 few:z.ak.length<=20000
 set:∀s∈z.ak,ee s.set=true
 under:∀s∈z.ak,(bK s.set.name z.af).1=true
 rising:ic z.ak
theorem uH{s:cG}(h:ee s=true):bq s.name=true:=by
 unfold ee at h;simp only[aU,Bool.not_eq_true',Bool.or_eq_false_iff,Bool.not_eq_false']at h;exact h.1.1.1.1.1
theorem CW:∀(l:List Signed),(∀s∈l,bq s.set.name=true)->(∀i p s,l[i]? =some p->l[i+1]? =some s->rA p.set.name p.set.type s.set.name s.set.type<0)->ic l
 |[],_,_=>trivial
 |[_],_,_=>trivial
 | a :: b :: t, hv, h => ⟨by
     have:=h 0 a b rfl rfl
     rwa [yJ _ _ (hv a (by simp)) (hv b (by simp))]at this,CW (b::t) (λs hs=>hv s (bC _ hs)) λi p s hp hs=>h (i+1) p s hp hs⟩
theorem Ordered.of{z:aO}(h:ordered z=true):Ordered z:=by
 unfold ordered at h;simp only[aU,Bool.not_eq_true',Bool.or_eq_false_iff,Bool.not_eq_false',decide_eq_false_iff_not,aI,List.mem_range]at h;obtain⟨⟨⟨h1,h2⟩,h3⟩,h4⟩:=h;have hG:∀(i:Nat) s p,z.ak[i]? =some s->z.ak[i-1]? =some p->pk z.af i s p=false:=by
  intro i s p hs hp;have:=h4 i (aB.1 hs).1;rw[zg hs hp]at this;simpa using this
 have hL:∀s∈z.ak,ee s.set=true/\(bK s.set.name z.af).1=true:=by
  intro s hs;obtain⟨i,hi⟩:=cQ hs;obtain⟨hl,_⟩:=aB.1 hi;obtain⟨p,hp⟩:∃p,z.ak[i-1]? =some p:=⟨_,au (by omega)⟩
  have:=hG i s p hi hp;unfold pk at this;simp only[Bool.or_eq_false_iff,Bool.not_eq_false']at this;exact⟨this.1.1,this.1.2⟩
 refine⟨h1,h2,by omega,λs hs=>(hL s hs).1,λs hs=>(hL s hs).2,CW _ (λs hs=>uH (hL s hs).1) ?_⟩;intro i p s hp hs;have:=hG (i+1) s p hs hp;unfold pk at this;simp only[Bool.or_eq_false_iff,Bool.not_eq_false',Bool.and_eq_false_iff,decide_eq_false_iff_not,beq_iff_eq]at this;rcases this.2 with k|k
 .omega
 .omega
theorem Ordered.name{z:aO}(h:Ordered z):∀s∈z.ak,bq s.set.name=true:=λs hs=>uH (h.set s hs)
def bf(z:aO):Bool:=ordered z&&pM (λt=>nL z.ak ⟨z.af,t⟩) z&&(aliases z&&tV z (dK z)&&uJ z (dK z)&&ud z)
theorem Jf{z:aO}(h:Ordered z)(q:eP)(hq:bq q.name=true) :
 NQ.Fn cx 144 [.agg (aX z),.agg (pn q)] (.tuple [.d (.int .i64 (posOf z.ak q)),.d (.bool (nL z.ak q))]) []:=by
 obtain⟨h1,h2⟩:=Gx q hq z.ak h.rising h.name;have:=Sx z q (posOf z.ak q) (by have:=h.few;omega) h1
 rwa [h2]at this
theorem jB(z:aO):NQ.Fn cx 40 [.agg (aX z)] (.d (.bool (bf z))) []:=by
 refine aT bo mixed Tryz.func40 ?_;conv=>whnf
 (refine⟨_,_,Lg z,?_⟩;conv=>whnf)
 (refine aj (λh=>?_) (λh=>?_) <;> (rw[h];conv=>whnf))
 . (refine al rfl ?_;show AV.d (D.bool false)=_;(try simp only[Bool.not_eq_true',Bool.not_eq_false',aA]at *);simp only[bf, *, if_true,if_false,aY];done)
 have ho:Ordered z:=Ordered.of (by simpa using h);have hn:z.ak.length<=100000:=by have:=ho.few;omega
 have hb:(dK z).length=z.ak.length:=vl _ _ _
 (refine⟨_,_,Et z hn _ _ (λt=>Jf ho ⟨z.af,t⟩ ho.af),?_⟩;conv=>whnf)
 (refine aj (λh=>?_) (λh=>?_) <;> (rw[h];conv=>whnf))
 . (refine al rfl ?_;show AV.d (D.bool false)=_;(try simp only[Bool.not_eq_true',Bool.not_eq_false',aA]at *);simp only[bf, *, if_true,if_false,aY];done)
 (refine⟨_,_,NA z hn,?_⟩;conv=>whnf)
 have hv:bf z=(aliases z&&tV z (dK z)&&uJ z (dK z)&&ud z):=by
  simp only[Bool.not_eq_false']at *;simp only[bf, *, if_true,if_false,aY]
 (refine⟨_,_,BA z _ hn,?_⟩;conv=>whnf)
 repeat' (first|(refine⟨_,_,Ho z _ hn hb,?_⟩;conv=>whnf)|(refine⟨_,_,It z _ hn hb,?_⟩;conv=>whnf)|(refine⟨_,_,Fs z _ hn,?_⟩;conv=>whnf)|(refine bV ?_;conv=>whnf)|(refine aj (λh=>?_) (λh=>?_) <;> (rw[h];conv=>whnf))|fail)
 all_goals first
  |(refine al rfl ?_;show AV.d (D.bool false)=_;rw[hv];simp only[*, if_true,if_false,aY];done)
  |(refine al rfl ?_;show AV.d (D.bool (ud z))=_;rw[hv];simp only[*, if_true,if_false,aY];done)
  |fail
theorem su{s:Bs}(h:bq s=true):cF (dw s)=(cF s).tail:=yi (AD (List.tail_suffix _) (sc h))
theorem qS{s:Bs}(h:bq s=true):bq (dw s)=true:=GN (List.tail_suffix _) h
theorem GK{n z:Bs}(hn:bq n=true)(h:bE n z=true)(hJ:n≠z):n≠[46]/\bE (dw n) z=true/\(cF (dw n)).length+1=(cF n).length:=by
 unfold bE at h ⊢;rw[su hn];have hs:=List.isSuffixOf_iff_suffix.1 h;cases hl:cF n with
 |nil =>
  rw[hl]at hs;have:cF z=[]:=List.suffix_nil.1 hs;exact absurd (zd (by rw[hl,this])) hJ
 |cons x t =>
  rw[hl]at hs;refine⟨λe=>by rw[e]at hl;simp[cF]at hl,?_,by simp⟩;rcases List.suffix_cons_iff.1 hs with k|k
  .exact absurd (zd (by rw[hl,k])) hJ
  .exact List.isSuffixOf_iff_suffix.2 k
theorem bQ{z:aO}(h:bf z=true):Ordered z:=by
 unfold bf at h;simp only[aU]at h;exact Ordered.of h.1.1
theorem wD{s:cG}(h:ee s=true):∃d,s.data[0]? =some d:=by
 unfold ee at h;simp only[aU,Bool.not_eq_true',Bool.or_eq_false_iff,Bool.not_eq_false']at h;have h1:=h.1.1.2;unfold within at h1;simp at h1;exact⟨_,au (by omega)⟩
def fP(z:aO):Int:=match z.ak[posOf z.ak ⟨z.af,4⟩]? with|some s=>(match s.set.data[0]? with|some d=>d.n|none=>0)|none=>0
def tz(z:aO):Int×Int:=if (!bf z)=true then(0,1)else(fP z,0)
def zY(z:aO):Nat->Bs->Option Bs
 |0,_=>none
 |f+1,n=>if n=z.af then none else if nL z.ak ⟨n,2⟩=true then some n else zY z f (dw n)
def Pz(z:aO)(s:Bs):Option Bs:=zY z ((cF s).length+1) s
def pA(z:aO)(s:Bs):Bs×Bool×Int :=
 if (!bq s|| !bf z)=true then([],false,1)else if (!(bK s z.af).1)=true then([],false,20)
 else match Pz z s with|some c=>(c,true,0)|none=>([],false,0)
theorem TL(z:aO)(s:Bs):NQ.Fn cx 140 [.agg (aX z),.str s] (.tuple [.d (.str (pA z s).1),.d (.bool (pA z s).2.1),.d (.int .i64 (pA z s).2.2)]) []:=by
 refine aT bo mixed Tryz.func140 ?_;conv=>whnf
 (refine⟨_,_,mU s,?_⟩;conv=>whnf)
 (refine aj (λh=>?_) (λh=>?_) <;> (rw[h];conv=>whnf))
 .refine al rfl ?_;rw[pA,h];rfl
 (refine⟨_,_,jB z,?_⟩;conv=>whnf)
 (refine aj (λh=>?_) (λh=>?_) <;> (rw[h];conv=>whnf))
 .refine al rfl ?_;rw[pA,if_pos (by simp only[*, if_true,if_false,aY])];rfl
 have hZ:bq s=true:=by simp only[Bool.not_eq_false']at *; assumption
 have hv:bf z=true:=by simp only[Bool.not_eq_false']at *; assumption
 have ho:=bQ hv;have h0:¬(!bq s|| !bf z)=true:=by simp[hZ,hv]
 (refine⟨_,_,od s z.af,?_⟩;conv=>whnf)
 (refine aj (λh=>?_) (λh=>?_) <;> (rw[h];conv=>whnf))
 .refine al rfl ?_;rw[pA,if_neg h0,if_pos (by assumption)];rfl
 have hu:bK s z.af=(true,0):=by
  have h3:(bK s z.af).1=true:=by simp only[Bool.not_eq_false']at *; assumption
  unfold bK at h3 ⊢;rw[if_pos ⟨hZ,ho.af⟩]at h3 ⊢;rw[show bE s z.af=true from h3]
 have hR:pA z s=(match Pz z s with|some c=>(c,true,0)|none=>([],false,0)):=by
  rw[pA,if_neg h0,hu];rfl
 have hP:bE s z.af=true:=by
  unfold bK at hu;rw[if_pos ⟨hZ,ho.af⟩]at hu;exact(Prod.mk.inj hu).1
 refine⟨Bs,λn=>⟨[(2,.ptr 2 0),(9,.ptr 9 0),(10,.d (.str n))],[(2,.box ((aX z).map .d)),(9,.box ((aX z).map .d))]⟩,
  λn=>bq n=true/\bE n z.af=true/\zY z ((cF n).length+1) n=Pz z s,λn=>(cF n).length,
  ⟨s,⟨hZ,hP,rfl⟩,aK.keep ⟨ae,ae,ae,trivial⟩ ⟨ae,ae,trivial⟩⟩,λn ⟨hY,hn,hc⟩=>?_⟩
 conv=>whnf
 refine aj (λh1=>?_) (λh1=>?_) <;> (rw[h1];conv=>whnf)
 .have hJ:n≠z.af:=by simpa using h1
  obtain⟨k1,k2,k3⟩:=GK hY hn hJ;rw[zY,if_neg hJ]at hc
  (refine⟨_,_,Jf ho ⟨n,2⟩ hY,?_⟩;conv=>whnf)
  refine aj (λh2=>?_) (λh2=>?_) <;> (rw[h2];conv=>whnf)
  .refine al rfl ?_;rw[if_pos h2]at hc;rw[hR, <- hc];rfl
  .rw[if_neg (by rw[h2];exact Bool.false_ne_true), <- k3]at hc;have hp:je n=(dw n,0):=by unfold je;rw[if_pos hY,if_neg k1]
   have kq:=Mh n;rw[hp]at kq
   (refine⟨_,_,kq,?_⟩;conv=>whnf)
   exact⟨dw n,⟨qS hY,k2,hc⟩,by(show(cF (dw n)).length<(cF n).length;omega),aK.keep ⟨ae,ae,ae,trivial⟩ ⟨ae,ae,trivial⟩⟩
 .have hJ:n=z.af:=by simpa using h1
  rw[zY,if_pos hJ]at hc;refine al rfl ?_;rw[hR, <- hc];rfl
def nQ(l:List Bs):Bs:=(l[l.length-1]?).getD []
def Ay(n b:Bs):Bool:= !(b==[])&& !(b==n)
def Az(acc:List Bs)(n:Bs):Bool:=((acc.length:Int)==0)|| !(nQ acc==n)
def nam:List Bs->List (Signed×Bs)->List Bs
 |acc,[]=>acc
 |acc,(s,b)::t=>nam (if Ay s.set.name b=true then acc else if Az acc s.set.name=true then acc++[s.set.name]else acc) t
def tq(z:aO):List Bs:=nam [] (z.ak.zip (dK z))
def kQ(z:aO):List Bs×Int:=if (!bf z)=true then([],1)else(tq z,0)
theorem BU{acc:List Bs}(h:(((acc.map ck).length:Int)==0)=false):acc.length≠0:=by simp at h;simpa using h
theorem Qq{acc:List Bs}(h:(((acc.map ck).length:Int)==0)=false):(acc.map ck)[((acc.length-1:Nat):Int).toNat]? =some (ck (nQ acc)):=by
 have h' :=BU h;rw[Int.toNat_natCast,bc,nQ,au (by omega)];rfl
theorem Ny{acc:List Bs}(hl:acc.length<=100000)(h:(((acc.map ck).length:Int)==0)=false):IntKind.i64.wrap (((acc.map ck).length:Int)-1)=((acc.length-1:Nat):Int):=by
 have h' :=BU h;rw[aA,wrap_i64 (by omega) (by omega)];omega
theorem SJ{acc:List Bs}(h:(((acc.map ck).length:Int)==0)=false):((acc.length-1:Nat):Int).toNat<(acc.map ck).length:=by
 have h' :=BU h;simp;omega
theorem QD(z:aO):NQ.Fn cx 228 [.agg (aX z)] (.tuple [.d (.slice 1 ((kQ z).1.map ck)),.d (.int .i64 (kQ z).2)]) []:=by
 refine aT bo mixed Tryz.func228 ?_;conv=>whnf
 (refine⟨_,_,jB z,?_⟩;conv=>whnf)
 (refine aj (λh=>?_) (λh=>?_) <;> (rw[h];conv=>whnf))
 .refine al rfl ?_;rw[kQ,if_pos h];rfl
 have hv:bf z=true:=by simpa using h
 have ho:=bQ hv;have hn:z.ak.length<=100000:=by have:=ho.few;omega
 have hb:(dK z).length=z.ak.length:=vl _ _ _;have hR:kQ z=(tq z,0):=by rw[kQ,if_neg (by simp[hv])]
 (refine⟨_,_,NA z hn,?_⟩;conv=>whnf)
 refine ⟨Nat × List Bs, fun x => ⟨[(1, .ptr 1 0), (4, .ptr 4 0), (5, .own 100), (18, .d (.slice 5 (z.ak.map aw))), (19, .d (.int .i64 ((z.ak.map aw).length : Int))), (20, .d (.int .i64 x.1))],
     [(1,.box ((aX z).map .d)),(4,.box ((sw z (dK z)).map .d)),(100,.row 9 1 (x.2.map ck))]⟩,
  λx=>x.1<=z.ak.length/\x.2.length<=x.1/\nam x.2 ((z.ak.zip (dK z)).drop x.1)=tq z,λx=>z.ak.length-x.1,
  ⟨(0,[]),⟨by simp,by simp,rfl⟩,(aK.jV 5 100 1 9 1 rfl rfl (by decide)).trans (aK.keep ⟨ae,ae,ae,ae,ae,ae,trivial⟩ ⟨ae,ae,ae,trivial⟩)⟩,?_⟩
 rintro⟨k,acc⟩ ⟨hk,hl,hc⟩;simp only at hk hl hc;conv=>whnf
 refine aj (λh1=>?_) (λh1=>?_) <;> (rw[h1];conv=>whnf)
 .have hC:k<z.ak.length:=by simp at h1;omega
  obtain⟨s,hs⟩:∃s,z.ak[k]? =some s:=⟨_,au hC⟩
  obtain⟨b,kl⟩:∃b,(dK z)[k]? =some b:=⟨_,au (by omega)⟩
  have hV:(z.ak.zip (dK z)).drop k=(s,b)::(z.ak.zip (dK z)).drop (k+1):=by
   rw[List.drop_eq_getElem_cons (by simp;omega)]
   congr 1
   rw[List.getElem_zip];obtain⟨_,e1⟩:=aB.1 hs;obtain⟨_,e2⟩:=aB.1 kl;rw[e1,e2]
  rw[hV,nam]at hc;refine⟨aC k,aw s,aM hs,?_⟩;conv=>whnf
  have e0:(⟨#[]⟩:ByteArray).data.toList=[]:=rfl;clear hV hb
  repeat' (first
   |(refine bV ?_;conv=>whnf)
   |(refine⟨(k+1,acc),⟨hC,by(simp;omega),(by(try simp only[e0,aA]at *);simp only[Ay,Az, *, if_true,if_false,aY]at hc;exact hc)⟩,by(show z.ak.length-(k+1)<z.ak.length-k;omega),aK.keep ⟨ae,ae,ae,ae,ae,⟨ax (by omega),rfl⟩,trivial⟩ ⟨ae,ae,⟨by first|rfl|(show some (Blk.row _ _ (_++_))=some (Blk.row _ _ _);rw[List.map_append];rfl),rfl⟩,trivial⟩⟩;done)
   |(refine⟨(k+1,acc++[s.set.name]),⟨hC,by(simp;omega),(by(try simp only[e0,aA]at *);simp only[Ay,Az, *, if_true,if_false,aY]at hc;exact hc)⟩,by(show z.ak.length-(k+1)<z.ak.length-k;omega),aK.keep ⟨ae,ae,ae,ae,ae,⟨ax (by omega),rfl⟩,trivial⟩ ⟨ae,ae,⟨by first|rfl|(show some (Blk.row _ _ (_++_))=some (Blk.row _ _ _);rw[List.map_append];rfl),rfl⟩,trivial⟩⟩;done)
   |(refine aj (λh=>?_) (λh=>?_) <;> (rw[h];conv=>whnf))
   |(refine⟨aC k,ck b,aM kl,?_⟩;conv=>whnf)
   |(rw[Ny (acc:=acc) (by omega) (by assumption)];refine⟨aC _,SJ (acc:=acc) (by assumption),?_⟩;conv=>whnf)
   |(refine⟨_,Qq (acc:=acc) (by assumption),?_⟩;conv=>whnf)
   |(refine⟨by(show(acc.map ck).length+1<=_;rw[aA];omega),by(show((acc.map ck).length+1)*16<=_;rw[aA];omega),?_⟩;conv=>whnf)
   |fail)
 .obtain rfl:k=z.ak.length:=by simp at h1;omega
  refine al rfl ?_;rw[List.drop_eq_nil_of_le (by simp;omega),nam]at hc;rw[hR, <- hc];rfl
def atI(l:List Signed)(q:eP):Int:=match l.findIdx? (is q)with|some k=>(k:Int)|none=> -1
def qL(l:List Signed)(q:eP)(i:Nat):Bool:=match l[i]? with|some x=> !is q x|none=>true
theorem Sk{l:List Signed}{q:eP}{k:Nat}{s:Signed}(hk:l[k]? =some s)(hs:is q s=true)(hb:(List.range k).all (qL l q)=true):atI l q=k:=by
 obtain⟨hl,e⟩:=aB.1 hk;have:l.findIdx? (is q)=some k:=List.findIdx?_eq_some_iff_getElem.2 ⟨hl,by rw[e];exact hs,λj hj=>by
  have:=aI.1 hb j (List.mem_range.2 hj);simp only[qL,au (show j<l.length by omega)]at this;simpa using this⟩
 rw[atI,this]
theorem Pg{l:List Signed}{q:eP}(hb:(List.range l.length).all (qL l q)=true):atI l q= -1:=by
 have:l.findIdx? (is q)=none:=List.findIdx?_eq_none_iff.2 λx hx=>by
  obtain⟨j,hj,rfl⟩:=List.getElem_of_mem hx;have:=aI.1 hb j (List.mem_range.2 hj);simp only[qL,au hj]at this;simpa using this
 rw[atI,this]
def tZ(z:aO)(i:Nat):Bool:=match z.ak[i]? with|some s=> !(decide ((s.set.data.length:Int)>20)||decide ((s.sigs.length:Int)>20))|none=>false
def pC(z:aO):Bool:=decide ((z.ak.length:Int)<=100)&&(List.range z.ak.length).all (tZ z)
theorem Kb(z:aO)(q:eP)(hn:z.ak.length<=100000):NQ.Fn cx 19 [.agg (aX z),.agg (pn q)] (.d (.int .i64 (atI z.ak q))) []:=by
 refine aT bo mixed Tryz.func19 ?_;conv=>whnf
 refine⟨Nat,λk=>⟨[(2,.ptr 2 0),(3,.ptr 3 0),(5,.d (.int .i64 k))],[(2,.box ((aX z).map .d)),(3,.box ((pn q).map .d))]⟩,λk=>k<=z.ak.length/\(List.range k).all (qL z.ak q)=true,λk=>z.ak.length-k,⟨0,⟨by omega,rfl⟩,aK.keep ⟨ae,ae,ae,trivial⟩ ⟨ae,ae,trivial⟩⟩,λk ⟨hk,hB⟩=>?_⟩;(conv=>whnf);refine aj (λh1=>?_) (λh1=>?_) <;> (rw[h1];conv=>whnf)
 .have hC:k<z.ak.length:=by simp at h1;omega
  obtain⟨s,hs⟩:∃s,z.ak[k]? =some s:=⟨_,au hC⟩
  have hG:qL z.ak q k= !is q s:=by simp only[qL,hs]
  repeat' (first
   |(refine bV ?_;conv=>whnf)
   |(refine al rfl ?_;rw[Sk hs (by simp only[is, *, if_true,if_false,aY]) hB];rfl)
   |(refine⟨k+1,⟨by omega,?_⟩,by(show z.ak.length-(k+1)<z.ak.length-k;omega),aK.keep ⟨ae,ae,⟨ax (by omega),rfl⟩,trivial⟩ ⟨ae,ae,trivial⟩⟩;rw[dU,hB,hG];((try simp only[aA]at *);simp only[is, *, if_true,if_false,aY];done))
   |(refine aj (λh=>?_) (λh=>?_) <;> (rw[h];conv=>whnf))
   |(refine⟨aC k,aw s,aM hs,?_⟩;conv=>whnf)
   |fail)
 .obtain rfl:k=z.ak.length:=(by simp at h1;omega)
  refine al rfl ?_;rw[Pg hB];rfl
theorem TW(z:aO):NQ.Fn cx 78 [.agg (aX z)] (.d (.bool (pC z))) []:=by
 refine aT bo mixed Tryz.func78 ?_;conv=>whnf
 refine⟨Nat,λk=>⟨[(1,.ptr 1 0),(3,.d (.int .i64 k))],[(1,.box ((aX z).map .d))]⟩,λk=>k<=z.ak.length/\k<=101/\(List.range k).all (tZ z)=true,λk=>101-k,
  ⟨0,⟨by omega,by omega,rfl⟩,aK.keep ⟨ae,ae,trivial⟩ ⟨ae,trivial⟩⟩,λk ⟨hk,kH,hB⟩=>?_⟩
 conv=>whnf
 refine aj (λh1=>?_) (λh1=>?_) <;> (rw[h1];conv=>whnf)
 .have hC:k<z.ak.length:=by simp at h1;omega
  refine aj (λh2=>?_) (λh2=>?_) <;> (rw[h2];conv=>whnf)
  .have ky :k<=100:=by simp at h2;omega
   obtain⟨s,hs⟩:∃s,z.ak[k]? =some s:=⟨_,au hC⟩
   have hG:tZ z k= !(decide ((s.set.data.length:Int)>20)||decide ((s.sigs.length:Int)>20)):=by simp only[tZ,hs]
   have hI:tZ z k=false->pC z=false:=λhh=>by rw[pC,eu hC hh,ma]
   repeat' (first
    |(refine bV ?_;conv=>whnf)
    |(refine al rfl ?_;show AV.d (D.bool false)=_;(try simp only[aA]at *);rw[hI (by rw[hG];simp only[tZ, *, if_true,if_false,aY])];done)
    |(refine⟨k+1,⟨by omega,by omega,?_⟩,by(show 101-(k+1)<101-k;omega),aK.keep ⟨ae,⟨ax (by omega),rfl⟩,trivial⟩ ⟨ae,trivial⟩⟩;rw[dU,hB,hG];((try simp only[aA]at *);simp only[tZ, *, if_true,if_false,aY];done))
    |(refine aj (λh=>?_) (λh=>?_) <;> (rw[h];conv=>whnf))
    |(refine⟨aC k,aw s,aM hs,?_⟩;conv=>whnf)
    |fail)
  .refine al rfl ?_;show AV.d (D.bool (decide (((z.ak.map aw).length:Int)<=100)))=_
   have:decide ((z.ak.length:Int)<=100)=false:=by simp at h2 ⊢;omega
   rw[aA,pC,this];rfl
 .refine al rfl ?_;obtain rfl:k=z.ak.length:=(by simp at h1;omega)
  show AV.d (D.bool (decide (((z.ak.map aw).length:Int)<=100)))=_
  rw[aA,pC,hB,iG]
def ko(af:Bs):List Signed->List Bs
 |[]=>[]
 |s::t=>if jT af s=true then s.set.name::ko af t else ko af t
theorem rB(af:Bs):∀(l:List Signed) c,c∈ko af l-> ∃s∈l,s.set.name=c
 |[],c,h=>by cases h
 |s::t,c,h=>by
  unfold ko at h;split at h
  .rcases List.mem_cons.1 h with rfl|h
   .exact⟨s,List.mem_cons_self .., rfl⟩
   .obtain⟨x,hx,e⟩:=rB af t c h;exact⟨x,bC _ hx,e⟩
  .obtain⟨x,hx,e⟩:=rB af t c h;exact⟨x,bC _ hx,e⟩
def Ai(acc:List Bs)(c:Bs):Bool:=((acc.length:Int)==0)|| !bE c (nQ acc)
def sq:List Bs->List Bs->List Bs
 |acc,[]=>acc
 |acc,c::t=>sq (if Ai acc c=true then acc++[c]else acc) t
def dS(z:aO):List Bs:=sq [] (ko z.af z.ak)
theorem drop_cons{α:Type}{l:List α}{k:Nat}{x:α}(h:l[k]? =some x):l.drop k=x::l.drop (k+1):=by
 obtain⟨hl,e⟩:=aB.1 h;rw[List.drop_eq_getElem_cons hl,e]
theorem ph{acc:List Bs}(h:acc.length≠0):nQ acc∈acc:=by
 rw[nQ,au (by omega)];exact List.getElem_mem _
def DK(cs:List Bs)(n:Bs)(k:Nat):Nat:=k+((cs.drop k).takeWhile λc=>decide (bX c n<=0)).length
def DV(cs:List Bs)(j:Nat):Bs:=(cs[j-1]?).getD []
def EC(cs:List Bs)(j:Nat)(n:Bs):Bs:=if (decide ((j:Int)>0)&&bE n (DV cs j))=true then DV cs j else[]
def bGo(cs:List Bs):Nat->List Signed->List Bs
 |_,[]=>[]
 |k,s::t=>EC cs (DK cs s.set.name k) s.set.name::bGo cs (DK cs s.set.name k) t
def IV(z:aO):List Bs:=bGo (dS z) 0 z.ak
theorem FC:∀(l acc:List Bs) c,c∈sq acc l->c∈acc\/c∈l
 |[],acc,c,h=> .inl h
 |x::t,acc,c,h=>by
  rw[sq]at h;rcases FC t _ c h with q|q
  .split at q
   .rcases List.mem_append.1 q with q|q
    .exact .inl q
    .simp at q;subst q;exact .inr (List.mem_cons_self ..)
   .exact .inl q
  .exact .inr (bC _ q)
def kg(b:Bool):List D:=[.bool b]
theorem ri{a z:Bs}(h:bE a z=true):bX z a<=0:=by
 rw[kI]at h;obtain⟨t,ht⟩:=h;unfold bX;rw[<- ht];exact Hm du _ _
theorem rj{a b c z:Bs}(ha:bE a z=true)(hc:bE c z=true)(h1:bX a b<=0)(h2:bX b c<=0):bE b z=true:=by
 rw[kI]at ha hc ⊢;obtain⟨s,hs⟩:=ha;obtain⟨t,ht⟩:=hc;unfold bX at h1 h2;rw[<- hs]at h1;rw[<- ht]at h2;exact rz du _ _ _ _ h1 h2
theorem mB(a:Bs):bE a a=true:=by rw[kI];exact List.prefix_refl _
theorem MF{a b:Bs}(h:bX a b<0):bX a b= -1:=by rcases cT.range a b with e|e|e <;> omega
theorem Pq{a b c:Bs}(h:bX a b<0)(k:bX b c<0):bX a c<0:=by
 have:=cT.lt _ _ _ (MF h) (MF k);omega
theorem IZ{a b:Bs}(h:bX a b<0):¬bX b a<=0:=by have:=cT.lH a b;omega
abbrev Asc(l:List Bs):Prop:=l.Pairwise λa b=>bX a b<0
theorem EW(af:Bs):∀(l:List Signed),ic l->Asc (ko af l)
 |[],_=>List.Pairwise.nil
 |x::t,h=>by
  have ih:=EW af t h.tail;unfold ko;split
  .rename_i hx;refine List.Pairwise.cons ?_ ih;intro c hc;have hm:∀(l:List Signed) c,c∈ko af l-> ∃s∈l,s.set.name=c/\s.set.type=2:=by
    intro l;induction l with
    |nil=>intro c h;cases h
    |cons s l ih =>
     intro c h;unfold ko at h;split at h
     .rename_i hs;rcases List.mem_cons.1 h with rfl|h
      .refine⟨s,List.mem_cons_self .., rfl,?_⟩;unfold jT at hs;simp at hs;exact hs.1
      .obtain⟨y,hy,e⟩:=ih c h;exact⟨y,bC _ hy,e⟩
     .obtain⟨y,hy,e⟩:=ih c h;exact⟨y,bC _ hy,e⟩
   obtain⟨s,hs,e1,e2⟩:=hm t c hc;have hC:=nz h s hs;have kE:x.set.type=2:=by unfold jT at hx;simp at hx;exact hx.1
   unfold Signed.place at hC;rw[e1,e2,kE]at hC;unfold cpl lex at hC;split at hC
   .have:dA 2 2=0:=rfl;simp only at hC;rw[this]at hC;omega
   .exact hC
  .exact ih
def yA(l:List Bs):Prop:= ∀a∈l,∀b∈l,bE a b=true->a=b
theorem Ev{l:List Bs}(h:Asc l)(hJ:l.length≠0):∀a∈l,bX a (nQ l)<=0:=by
 intro a ha;obtain⟨i,hi,rfl⟩:=List.getElem_of_mem ha;rw[nQ,au (by omega),Option.getD_some];by_cases e:i=l.length-1
 .subst e;rw[(cT.zero _ _).2 rfl];exact Int.le_refl _
 .have:=List.pairwise_iff_getElem.1 h i (l.length-1) hi (by omega) (by omega);omega
theorem vV:∀(rest acc:List Bs),Asc (acc++rest)->yA acc->Asc (sq acc rest)/\yA (sq acc rest)/\(∀a∈acc,a∈sq acc rest)/\(∀c∈rest,∃h∈sq acc rest,bE c h=true)
 |[],acc,h,ha=>⟨by rw[sq];simpa using h,ha,λa h=>h,λc h=>by cases h⟩
 |c::t,acc,h,ha=>by
  have kc:Asc acc:=(List.pairwise_append.1 h).1;have hC:∀a∈acc,bX a c<0:=λa hm=>(List.pairwise_append.1 h).2.2 a hm c (List.mem_cons_self ..)
  rw[sq];by_cases hn:Ai acc c=true
  .rw[if_pos hn];have hI:∀a∈acc,bE c a=false:=by
    intro a hm;cases hu:bE c a with
    |false=>rfl
    |true =>
     have hJ:acc.length≠0:=by cases acc with|nil=>cases hm|cons=>simp
     have h1:=Ev kc hJ a hm;have h2:=hC _ (ph hJ);have h3:=rj (mB a) hu h1 (by omega);have h4:=ha _ (ph hJ) _ hm h3;unfold Ai at hn;rw[h4,hu]at hn;simp at hn;exact absurd (by simpa using hn) hJ
   have hQ:yA (acc++[c]):=by
    intro a kz b kA hu;rcases List.mem_append.1 kz with qa|qa <;> rcases List.mem_append.1 kA with qb|qb
    .exact ha a qa b qb hu
    .simp at qb;subst qb;exact absurd (ri hu) (IZ (hC a qa))
    .simp at qa;subst qa;rw[hI b qb]at hu;cases hu
    .simp at qa qb;rw[qa,qb]
   obtain⟨r1,r2,r3,r4⟩:=vV t (acc++[c]) (by simpa using h) hQ;refine⟨r1,r2,λa hm=>r3 a (List.mem_append_left _ hm),λx hx=>?_⟩;rcases List.mem_cons.1 hx with rfl|hx
   .exact⟨x,r3 x (by simp),mB x⟩
   .exact r4 x hx
  .rw[if_neg hn];have hJ:acc.length≠0:=λe=>hn (by unfold Ai;rw[e];rfl)
   have hu:bE c (nQ acc)=true:=by
    unfold Ai at hn;simp at hn;exact hn.2
   have h' :Asc (acc++t):=by
    have h:=List.pairwise_append.1 h;refine List.pairwise_append.2 ?_;exact⟨h.1,(List.pairwise_cons.1 h.2.1).2,λa hm b hb=>h.2.2 a hm b (bC _ hb)⟩
   obtain⟨r1,r2,r3,r4⟩:=vV t acc h' ha;refine⟨r1,r2,r3,λx hx=>?_⟩;rcases List.mem_cons.1 hx with rfl|hx
   .exact⟨_,r3 _ (ph hJ),hu⟩
   .exact r4 x hx
def spec(H:List Bs)(n:Bs):Bs:=(H.find? λh=>bE n h).getD []
theorem Ck{H:List Bs}(hA:Asc H)(ha:yA H){n h:Bs}(hm:h∈H)(hu:bE n h=true):spec H n=h:=by
 unfold spec;cases hf:H.find? (λh=>bE n h)with
 |none=>have:=List.find?_eq_none.1 hf h hm;rw[hu]at this;exact absurd rfl this
 |some g =>
  have hg:=List.find?_some hf;have hT:=List.mem_of_find?_eq_some hf;show g=h
  have h1:=ri hu;have h2:=ri hg;rcases cT.range g h with e|e|e
  .exact(ha h hm g hT (rj (mB g) hg (by omega) h1)).symm
  .exact(cT.zero _ _).1 e
  .have:=cT.lH g h;exact ha g hT h hm (rj (mB h) hu (by omega) h2)
theorem Dh{H:List Bs}{n:Bs}(h:∀x∈H,bE n x=false):spec H n=[]:=by
 unfold spec;rw[List.find?_eq_none.2 λx hx=>by rw[h x hx];simp];rfl
def cnt(H:List Bs)(n:Bs):Nat:=(H.takeWhile λc=>decide (bX c n<=0)).length
theorem Mp{H:List Bs}{n:Bs}{k:Nat}(hk:k<=H.length)(kj:∀c∈H.take k,bX c n<=0):DK H n k=cnt H n:=by
 unfold DK cnt;conv=>rhs;rw[<- List.take_append_drop k H]
 rw[List.takeWhile_append_of_pos (by intro a ha;simpa using kj a ha),List.length_append,List.length_take];omega
theorem MK(H:List Bs)(n:Bs):cnt H n<=H.length:=by
 unfold cnt;exact(List.takeWhile_sublist _).length_le
theorem OC{α:Type}{p:α->Bool}:∀{l:List α} {x:α},x∈l.takeWhile p->p x=true
 |[],x,h=>by cases h
 |y::t,x,h=>by
  rw[List.takeWhile_cons]at h;split at h
  .rcases List.mem_cons.1 h with rfl|h
   .assumption
   .exact OC h
  .cases h
theorem EO(H:List Bs)(n:Bs):∀c∈H.take (cnt H n),bX c n<=0:=by
 intro c hc;have:H.take (cnt H n)=H.takeWhile λc=>decide (bX c n<=0):=by
  unfold cnt;exact(List.prefix_iff_eq_take.1 (List.takeWhile_prefix _)).symm
 rw[this]at hc;have:=OC hc;simpa using this
theorem Rn(H:List Bs)(n:Bs):H.take (cnt H n)=H.takeWhile λc=>decide (bX c n<=0):=by
 unfold cnt;exact(List.prefix_iff_eq_take.1 (List.takeWhile_prefix _)).symm
theorem xR{a b c:Bs}(h:bX a b<0)(k:bX b c<=0):bX a c<=0:=by
 rcases cT.range b c with e|e|e
 .have:=Pq h (by omega:bX b c<0);omega
 .rw[<- (cT.zero _ _).1 e];omega
 .omega
theorem Pp{a b c:Bs}(h:bX a b<=0)(k:bX b c<=0):bX a c<=0:=by
 rcases cT.range a b with e|e|e
 .exact xR (by omega) k
 .rw[(cT.zero _ _).1 e];exact k
 .omega
theorem Js{n h:Bs}(hle:bX h n<=0):∀{H:List Bs},Asc H->h∈H->h∈H.takeWhile λc=>decide (bX c n<=0)
 |[],_,hm=>by cases hm
 |x::t,hA,hm=>by
  rcases List.mem_cons.1 hm with rfl|hm
  .rw[List.takeWhile_cons,if_pos (by simpa using hle)];exact List.mem_cons_self ..
  .have hx:=(List.pairwise_cons.1 hA).1 h hm;rw[List.takeWhile_cons,if_pos (by simpa using xR hx hle)];exact bC _ (Js hle (List.pairwise_cons.1 hA).2 hm)
theorem Mx{H:List Bs}(hA:Asc H)(ha:yA H)(n:Bs):EC H (cnt H n) n=spec H n:=by
 have kr:cnt H n≠0->DV H (cnt H n)=nQ (H.take (cnt H n))/\(H.take (cnt H n)).length≠0:=λh0=>by
  have hl:=MK H n;have e:(H.take (cnt H n)).length=cnt H n:=by rw[List.length_take];omega
  refine⟨?_,by omega⟩;unfold DV nQ;rw[e,List.getElem?_take,if_pos (by omega)]
 by_cases hex:∃h∈H,bE n h=true
 .obtain⟨h,hm,hu⟩:=hex;have hM:=Js (ri hu) hA hm;rw[<- Rn]at hM;have h0:cnt H n≠0:=λe=>by rw[e]at hM;cases hM
  obtain⟨e1,e2⟩:=kr h0;have hAt:Asc (H.take (cnt H n)):=hA.sublist (List.take_sublist _ _);have h1:=Ev hAt e2 h hM;have hT:=ph e2;have h2:=EO H n _ hT;have h3:=ha _ (List.mem_of_mem_take hT) _ hm (rj (mB h) hu h1 h2);have ki:decide (((cnt H n:Nat):Int)>0)=true:=by simp;omega
  rw[Ck hA ha hm hu,EC,e1,h3,hu,ki];rfl
 .have hI:∀x∈H,bE n x=false:=λx hx=>by
   cases hu:bE n x with
   |false=>rfl
   |true=>exact absurd ⟨x,hx,hu⟩ hex
  rw[Dh hI];by_cases h0:cnt H n=0
  .rw[EC,h0];rfl
  .obtain⟨e1,e2⟩:=kr h0;rw[EC,e1,hI _ (List.mem_of_mem_take (ph e2)),ma];rfl
theorem yn{l:List Signed}{x:Signed}(h:ic (x::l)):∀s∈l,bX x.set.name s.set.name<=0:=λs hs=>by
 have hC:=nz h s hs;unfold cpl lex Signed.place at hC;simp only at hC;split at hC
 .omega
 .omega
theorem EB{H:List Bs}(hA:Asc H)(ha:yA H):∀(l:List Signed) (k:Nat),ic l->k<=H.length->(∀s∈l,∀c∈H.take k,bX c s.set.name<=0)->bGo H k l=l.map λs=>spec H s.set.name
 |[],_,_,_,_=>rfl
 |s::t,k,hr,hk,hp=>by
  have e:=Mp hk (hp s (List.mem_cons_self ..));rw[bGo,e,Mx hA ha,List.map_cons]
  congr 1
  refine EB hA ha t _ hr.tail (MK _ _) λx hx c hc=>?_
  exact Pp (EO _ _ c hc) (yn hr x hx)
theorem Aj{z:aO}(h:Ordered z):Asc (dS z)/\yA (dS z)/\ ∀c∈ko z.af z.ak,∃g∈dS z,bE c g=true:=by
 obtain⟨h1,h2,_,h4⟩:=vV (ko z.af z.ak) [] (by simpa using EW z.af z.ak h.rising) (λa ha=>by cases ha);exact⟨h1,h2,h4⟩
theorem vj{z:aO}(h:Ordered z):IV z=z.ak.map λs=>spec (dS z) s.set.name:=by
 obtain⟨h1,h2,_⟩:=Aj h;exact EB h1 h2 z.ak 0 h.rising (by omega) λs _ c hc=>by cases hc
theorem CX:∀{l:List Signed},ic l->l.Pairwise λa b=>bX a.set.name b.set.name<=0
 |[],_=>List.Pairwise.nil
 |x::t,h=>List.Pairwise.cons (yn h) (CX h.tail)
theorem yL(af n:Bs):∀(l:List Signed),gp af l n=true ↔ n∈ko af l
 |[]=>by simp[gp,ko]
 |s::t=>by
  have ih:=yL af n t;unfold gp at ih ⊢;unfold ko;rw[List.any_cons,Bool.or_eq_true,ih];by_cases h:jT af s=true
  .rw[if_pos h,h,iS,List.mem_cons,beq_iff_eq];exact⟨λk=>k.imp (λe=>e.symm) id,λk=>k.imp (λe=>e.symm) id⟩
  .have h' :jT af s=false:=by simpa using h
   rw[if_neg h,h'];simp
theorem Rc(H:List Bs)(n:Bs):spec H n=[]\/spec H n∈H:=by
 unfold spec;cases hf:H.find? (λh=>bE n h)with
 |none=>exact .inl rfl
 |some g=>exact .inr (List.mem_of_find?_eq_some hf)
theorem yV{z:aO}{h:Bs}(hm:h∈dS z):h∈ko z.af z.ak:=by
 rcases FC _ _ _ hm with q|q
 .cases q
 .exact q
theorem Ak{z:aO}(ho:Ordered z){h:Bs}(hm:h∈dS z):bq h=true:=by
 obtain⟨s,hs,e⟩:=rB _ _ _ (yV hm);rw[<- e];exact ho.name s hs
theorem Ox{z:aO}(ho:Ordered z){pre t:List Signed}{s:Signed}{c:Bs}(hz:pre++s::t=z.ak)
 (hc:(pre=[]/\c=[])\/ ∃p y,pre=p++[y]/\c=spec (dS z) y.set.name):la (gp z.af z.ak) c s.set.name=spec (dS z) s.set.name:=by
 obtain⟨hA,ha,ke⟩:=Aj ho;have hX:s∈z.ak:=by rw[<- hz];simp
 have vs:=ho.name s hX;have km:c=[]\/c∈dS z:=by
  rcases hc with ⟨_,e⟩|⟨p,y,_,e⟩
  .exact .inl e
  .rw[e];exact Rc _ _
 have hu:∀h∈dS z,(bK s.set.name h).1=bE s.set.name h:=λh hm=>by
  unfold bK;rw[if_pos ⟨vs,Ak ho hm⟩]
 have hJ:∀h∈dS z,(h==[])=false:=λh hm=>by
  have:=Ak ho hm;cases h with
  |nil=>exact absurd this (by decide)
  |cons=>rfl
 have ks:=CX ho.rising;rw[<- hz]at ks;obtain⟨q1,q2,q3⟩:=List.pairwise_append.1 ks;by_cases hex:∃h∈dS z,bE s.set.name h=true
 .obtain⟨h,hm,hP⟩:=hex;rw[Ck hA ha hm hP];by_cases kd:c=h
  .subst kd;unfold la;simp only[hJ c hm,hu c hm,hP,sd,ma,wX,fR,if_false]
  .have kh:s.set.name=h:=by
    refine Classical.byContradiction λkp=>kd ?_
    have hle:=ri hP;have hC:bX h s.set.name<0:=by
     rcases cT.range h s.set.name with e|e|e
     .omega
     .exact absurd ((cT.zero _ _).1 e).symm kp
     .omega
    obtain⟨x,hx,ex⟩:=rB _ _ _ (yV hm);rw[<- hz]at hx;have kb:x∈pre:=by
     rcases List.mem_append.1 hx with k|k
     .exact k
     .rcases List.mem_cons.1 k with rfl|k
      .exact absurd ex kp
      .have:=(List.pairwise_cons.1 q2).1 x k;rw[ex]at this;exact absurd this (IZ hC)
    rcases hc with ⟨e,_⟩|⟨p,y,e,ec⟩
    .rw[e]at kb;cases kb
    .have kG:=q3 y (by rw[e];simp) s (List.mem_cons_self ..);have kt:bX x.set.name y.set.name<=0:=by
      rw[e]at kb q1;rcases List.mem_append.1 kb with k|k
      .exact(List.pairwise_append.1 q1).2.2 x k y (by simp)
      .simp at k;subst k;rw[(cT.zero _ _).2 rfl];exact Int.le_refl _
     rw[ex]at kt;rw[ec,Ck hA ha hm (rj (mB h) hP kt kG)]
   have hN:gp z.af z.ak s.set.name=true:=(yL _ _ _).2 (by rw[kh];exact yV hm);have hS :(if (!(c==[])&& !(bK s.set.name c).1)=true then[]else c)=[]:=by
    rcases km with e|e
    .subst e;rfl
    .have:bE s.set.name c=false:=by
      cases hk:bE s.set.name c with
      |false=>rfl
      |true=>exact absurd (ha h hm c e (by rw[<- kh];exact hk)).symm kd
     rw[hJ c e,hu c e,this];rfl
   unfold la;simp only[hS,hN];exact kh
 .have hI:∀x∈dS z,bE s.set.name x=false:=λx hx=>by
   cases hk:bE s.set.name x with
   |false=>rfl
   |true=>exact absurd ⟨x,hx,hk⟩ hex
  rw[Dh hI];have hN:gp z.af z.ak s.set.name=false:=by
   cases hk:gp z.af z.ak s.set.name with
   |false=>rfl
   |true =>
    obtain⟨g,hg,kn⟩:=ke _ ((yL _ _ _).1 hk);rw[hI g hg]at kn;cases kn
  have hS :(if (!(c==[])&& !(bK s.set.name c).1)=true then[]else c)=[]:=by
   rcases km with e|e
   .subst e;rfl
   .rw[hJ c e,hu c e,hI c e];rfl
  unfold la;simp only[hS,hN];rfl
theorem IX{z:aO}(ho:Ordered z):∀(l pre:List Signed) (c:Bs),pre++l=z.ak->((pre=[]/\c=[])\/ ∃p y,pre=p++[y]/\c=spec (dS z) y.set.name) ->
 bh (gp z.af z.ak) c l=l.map λs=>spec (dS z) s.set.name
 |[],_,_,_,_=>rfl
 |s::t,pre,c,hz,hc=>by
  rw[bh,Ox ho hz hc,List.map_cons]
  congr 1
  exact IX ho t (pre++[s]) _ (by rw[<- hz];simp) (.inr ⟨pre,s,rfl,rfl⟩)
theorem My{z:aO}(ho:Ordered z):IV z=dK z:=by
 rw[vj ho];exact(IX ho z.ak [] [] rfl (.inl ⟨rfl,rfl⟩)).symm
theorem jZ:∀{l:List Signed},ic l-> ∀{i j:Nat} {a b:Signed},i<j->l[i]? =some a->l[j]? =some b->cpl a.place b.place<0
 |[],_,_,_,_,_,_,h,_=>by cases h
 |x::t,hr,i,j,a,b,ku,ha,hb=>by
  cases j with
  |zero=>omega
  |succ j =>
   cases i with
   |zero=>cases ha;exact nz hr b (aD hb)
   |succ i=>exact jZ hr.tail (by omega) ha hb
theorem oE{a b:Signed}(h:cpl a.place b.place<0):bX a.set.name b.set.name<=0/\(a.set.name=b.set.name->a.set.type<b.set.type):=by
 unfold cpl lex Signed.place at h;simp only at h;split at h
 .rename_i e;refine⟨by omega,λ_=>?_⟩;unfold dA at h;split at h
  .assumption
  .split at h <;> omega
 .rename_i e;exact⟨by omega,λk=>absurd ((cT.zero _ _).2 k) e⟩
theorem RF{a b:Bs}(h:bX a b<=0)(k:bX b a<=0):a=b:=by
 have:=cT.lH a b;exact(cT.zero _ _).1 (by omega)
theorem Ep{z:aO}{i:Nat}{s p:Signed}(hs:z.ak[i]? =some s)(hp:z.ak[i-1]? =some p) :
 oM z i=false ↔ s.set.type=3/\((0<i/\p.set.name=s.set.name)\/ ∃x,z.ak[i+1]? =some x/\x.set.name=s.set.name/\x.set.type≠8):=by
 simp only[oM,hs,hp,Option.getD_some,Bool.not_eq_false'];unfold vg;by_cases hC:i+1<z.ak.length
 .obtain⟨x,hx⟩:∃x,z.ak[i+1]? =some x:=⟨_,au hC⟩
  have hd:decide (((i:Nat):Int)+1<(z.ak.length:Int))=true:=by simp;omega
  simp[hx,hd]
 .have hx:z.ak[i+1]? =none:=by simp;omega
  have hd:decide (((i:Nat):Int)+1<(z.ak.length:Int))=false:=by simp;omega
  simp[hx,hd]
theorem yO{α:Type}{a b:List α}(hl:a.length=b.length)(h:∀i,i<a.length->a[i]? =b[i]?):a=b:=by
 apply List.ext_getElem?;intro i;by_cases hi:i<a.length
 .exact h i hi
 .rw[List.getElem?_eq_none (by omega),List.getElem?_eq_none (by omega)]
theorem BC{α:Type}{a b:List α}{k:Nat}(h:∀i,i<k->a[i]? =b[i]?)(hk:a[k]? =b[k]?):∀i,i<k+1->a[i]? =b[i]? :=λi hi=>by
 rcases Nat.lt_or_eq_of_le (Nat.le_of_lt_succ hi)with h1|rfl
 .exact h i h1
 .exact hk
theorem nT{α:Type}[DecidableEq α]{a b:α}(h:a≠b):AV.d (D.bool false)=AV.d (D.bool (decide (a=b))):=by rw[decide_eq_false h]
theorem Hb{α:Type}[DecidableEq α]{a b:α}(h:a=b):AV.d (D.bool true)=AV.d (D.bool (decide (a=b))):=by rw[decide_eq_true h]
theorem FR{α β:Type}{f:α->β}{a b:List α}(h:(((a.map f).length:Int) != ((b.map f).length:Int))=false):a.length=b.length:=by
 simp at h;omega
theorem Ls(a b:cG)(ha:a.data.length<=100000):NQ.Fn cx 59 [.agg (cg a),.agg (cg b)] (.d (.bool (decide (a=b)))) []:=by
 refine aT bo mixed Tryz.func59 ?_;conv=>whnf
 (refine aj (λh=>?_) (λh=>?_) <;> (rw[h];conv=>whnf))
 .exact al rfl (nT λe=>by subst e;simp at h)
 have h1:a.name=b.name:=by simpa using h
 (refine aj (λh=>?_) (λh=>?_) <;> (rw[h];conv=>whnf))
 .exact al rfl (nT λe=>by subst e;simp at h)
 have h2:a.type=b.type:=by simpa using h
 (refine aj (λh=>?_) (λh=>?_) <;> (rw[h];conv=>whnf))
 .exact al rfl (nT λe=>by subst e;simp at h)
 have h3:a.aP=b.aP:=by simpa using h
 (refine aj (λh=>?_) (λh=>?_) <;> (rw[h];conv=>whnf))
 .exact al rfl (nT λe=>by subst e;simp at h)
 have h4:=FR h;refine⟨Nat,λk=>⟨[(2,.ptr 2 0),(3,.ptr 3 0),(5,.d (.int .i64 k))],[(2,.box ((cg a).map .d)),(3,.box ((cg b).map .d))]⟩,λk=>k<=a.data.length/\ ∀i,i<k->a.data[i]? =b.data[i]?, λk=>a.data.length-k,⟨0,⟨by omega,λi hi=>by omega⟩,aK.keep ⟨ae,ae,ae,trivial⟩ ⟨ae,ae,trivial⟩⟩,λk ⟨hk,hB⟩=>?_⟩;conv=>whnf
 refine aj (λh1=>?_) (λh1=>?_) <;> (rw[h1];conv=>whnf)
 .have hC:k<a.data.length:=by simp at h1;omega
  obtain⟨x,hx⟩:∃s,a.data[k]? =some s:=⟨_,au hC⟩
  obtain⟨y,hy⟩:∃s,b.data[k]? =some s:=⟨_,au (by omega)⟩
  (refine bV ?_;conv=>whnf)
  refine⟨aC k,aQ x,aM hx,?_⟩;conv=>whnf
  refine⟨aC k,aQ y,aM hy,?_⟩;conv=>whnf
  (refine aj (λh=>?_) (λh=>?_) <;> (rw[h];conv=>whnf))
  .refine al rfl (nT λe=>?_);subst e;rw[hx]at hy;cases hy;simp at h
  .refine⟨k+1,⟨by omega,BC hB ?_⟩,by(show a.data.length-(k+1)<a.data.length-k;omega),aK.keep ⟨ae,ae,⟨ax (by omega),rfl⟩,trivial⟩ ⟨ae,ae,trivial⟩⟩;rw[hx,hy];simp at h;cases x;cases y;simp at h ⊢;exact⟨h.1,h.2.1,h.2.2⟩
 .obtain rfl:k=a.data.length:=by simp at h1;omega
  refine al rfl (Hb ?_);have e:=yO h4 hB;cases a;cases b;simp at *; exact⟨by assumption,by assumption,by assumption,e⟩
theorem DC(a b:Signed)(ha:a.set.data.length<=100000)(hs:a.sigs.length<=100000):NQ.Fn cx 79 [.agg (aw a),.agg (aw b)] (.d (.bool (decide (a=b)))) []:=by
 refine aT bo mixed Tryz.func79 ?_;conv=>whnf
 (refine⟨_,_,Ls a.set b.set ha,?_⟩;conv=>whnf)
 (refine aj (λh=>?_) (λh=>?_) <;> (rw[h];conv=>whnf))
 .exact al rfl (nT λe=>by subst e;simp at h)
 have h1:a.set=b.set:=by simpa using h
 (refine aj (λh=>?_) (λh=>?_) <;> (rw[h];conv=>whnf))
 .exact al rfl (nT λe=>by subst e;simp at h)
 have h4:=FR h;refine⟨Nat,λk=>⟨[(2,.ptr 2 0),(3,.ptr 3 0),(5,.d (.int .i64 k))],[(2,.box ((aw a).map .d)),(3,.box ((aw b).map .d))]⟩,λk=>k<=a.sigs.length/\ ∀i,i<k->a.sigs[i]? =b.sigs[i]?, λk=>a.sigs.length-k,⟨0,⟨by omega,λi hi=>by omega⟩,aK.keep ⟨ae,ae,ae,trivial⟩ ⟨ae,ae,trivial⟩⟩,λk ⟨hk,hB⟩=>?_⟩;conv=>whnf
 refine aj (λh1=>?_) (λh1=>?_) <;> (rw[h1];conv=>whnf)
 .have hC:k<a.sigs.length:=by simp at h1;omega
  obtain⟨x,hx⟩:∃s,a.sigs[k]? =some s:=⟨_,au hC⟩
  obtain⟨y,hy⟩:∃s,b.sigs[k]? =some s:=⟨_,au (by omega)⟩
  (refine bV ?_;conv=>whnf)
  refine⟨aC k,gK x,aM hx,?_⟩;conv=>whnf
  refine⟨aC k,gK y,aM hy,?_⟩;conv=>whnf
  (refine aj (λh=>?_) (λh=>?_) <;> (rw[h];conv=>whnf))
  .refine al rfl (nT λe=>?_);subst e;rw[hx]at hy;cases hy;simp at h
  .refine⟨k+1,⟨by omega,BC hB ?_⟩,by(show a.sigs.length-(k+1)<a.sigs.length-k;omega),aK.keep ⟨ae,ae,⟨ax (by omega),rfl⟩,trivial⟩ ⟨ae,ae,trivial⟩⟩;rw[hx,hy];simp at h;cases x;cases y;simp at h ⊢;exact h
 .obtain rfl:k=a.sigs.length:=by simp at h1;omega
  refine al rfl (Hb ?_);have e:=yO h4 hB;cases a;cases b;simp at *; exact⟨by assumption,e⟩
theorem Im(a b:List Signed)(ha:a.length<=100000)(hs:∀s∈a,s.set.data.length<=100000/\s.sigs.length<=100000):NQ.Fn cx 35 [.slice 5 (a.map aw),.slice 5 (b.map aw)] (.d (.bool (decide (a=b)))) []:=by
 refine aT bo mixed Tryz.func35 ?_;conv=>whnf
 (refine aj (λh=>?_) (λh=>?_) <;> (rw[h];conv=>whnf))
 .exact al rfl (nT λe=>by subst e;simp at h)
 have h4:=FR h;refine⟨Nat,λk=>⟨[(0,.d (.slice 5 (a.map aw))),(1,.d (.slice 5 (b.map aw))),(5,.d (.int .i64 k))],[]⟩,λk=>k<=a.length/\ ∀i,i<k->a[i]? =b[i]?, λk=>a.length-k,⟨0,⟨by omega,λi hi=>by omega⟩,aK.keep ⟨ae,ae,ae,trivial⟩ trivial⟩,λk ⟨hk,hB⟩=>?_⟩;conv=>whnf
 refine aj (λh1=>?_) (λh1=>?_) <;> (rw[h1];conv=>whnf)
 .have hC:k<a.length:=by simp at h1;omega
  obtain⟨x,hx⟩:∃s,a[k]? =some s:=⟨_,au hC⟩
  obtain⟨y,hy⟩:∃s,b[k]? =some s:=⟨_,au (by omega)⟩
  have hX:=hs x (aD hx)
  (refine bV ?_;conv=>whnf)
  refine⟨aC k,aw x,aM hx,?_⟩;conv=>whnf
  refine⟨aC k,aw y,aM hy,?_⟩;conv=>whnf
  (refine⟨_,_,DC x y hX.1 hX.2,?_⟩;conv=>whnf)
  (refine aj (λh=>?_) (λh=>?_) <;> (rw[h];conv=>whnf))
  .refine al rfl (nT λe=>?_);subst e;rw[hx]at hy;cases hy;simp at h
  .refine⟨k+1,⟨by omega,BC hB ?_⟩,by(show a.length-(k+1)<a.length-k;omega),aK.keep ⟨ae,ae,⟨ax (by omega),rfl⟩,trivial⟩ trivial⟩;rw[hx,hy];simp at h;rw[h]
 .obtain rfl:k=a.length:=by simp at h1;omega
  exact al rfl (Hb (yO h4 hB))
theorem Io(a b:aO)(ha:a.ak.length<=100000)(hs:∀s∈a.ak,s.set.data.length<=100000/\s.sigs.length<=100000):NQ.Fn cx 10 [.agg (aX a),.agg (aX b)] (.d (.bool (decide (a=b)))) []:=by
 refine aT bo mixed Tryz.func10 ?_;conv=>whnf
 (refine aj (λh=>?_) (λh=>?_) <;> (rw[h];conv=>whnf))
 .have h1:a.af=b.af:=by simpa using h
  (refine⟨_,_,Im a.ak b.ak ha hs,?_⟩;conv=>whnf)
  refine al rfl ?_;show AV.d (D.bool (decide (a.ak=b.ak)))=_
  congr 2
  cases a;cases b;simp at h1 ⊢;subst h1;simp
 .exact al rfl (nT λe=>by subst e;simp at h)
end Go.Proofs.YtodofogcincleaaGreatDoor
