/-
  Merged texts.
-/
import Derived.Test.YtodofogcincleaaGreatDoorTyM
import Derived.Test.YtodofogcincleaaGreatDoorMZb
set_option linter.all false
set_option maxRecDepth 100000
namespace Go.Proofs.YtodofogcincleaaGreatDoor
open NQ Go.RowKit
def aQ(d:Datum):List D:=[.str d.text,.int .i64 d.n,.int .i64 d.m]
def gK(g:Sig):List D:=[.str g.ah,.int .i64 g.key,.int .i64 g.alg,.int .i64 g.since,.int .i64 g.aO,.int .u64 g.sum]
def cg(s:cG):List D:=[.str s.name,.int .i64 s.type,.int .i64 s.aP,.slice 3 (s.data.map aQ)]
def aw(s:Signed):List D:=[.str s.set.name,.int .i64 s.set.type,.int .i64 s.set.aP,.slice 3 (s.set.data.map aQ),.slice 6 (s.sigs.map gK)]
def aX(z:aL):List D:=[.str z.af,.slice 5 (z.aj.map aw)]
def pn(q:ed):List D:=[.str q.name,.int .i64 q.type]
def DZ(r:yG):List D:=[.int .i64 r.text,.int .i64 r.NI,.int .i64 r.Sb,.int .i64 r.NH,.int .i64 r.Sa,.bool r.even,.bool r.single,.bool r.Mi]
theorem LX{w:World}{O L:Nat->Prop}{σ:Nat->Value}{a b:AV}{u v:Value}(h1:aG w O L σ a u)(h2:aG w O L σ b v):aG w O L σ (.tuple [a,b]) (.tuple #[u,v]):=by
 refine .tuple _ _ rfl λj c hj=>?_
 rcases j with _|_|j
 .cases hj;exact h1
 .cases hj;exact h2
 .simp at hj
theorem mW(s:Bs):NQ.Fn cx 68 [.str s] (.d (.bool (bk s))) []:=by
 refine eZ ⟨_,Tryz.func68,by kernel_rfl,by kernel_rfl⟩ rfl λw vs _ hK hD=>?_
 obtain⟨b,hb,rfl⟩:=fY (hD 0 _ rfl);rw[uV hK,hb];exact(Hj b w).mono λe w' ⟨he,hF⟩=>⟨_,he,hF,.fL _⟩
theorem Mo(s:Bs):NQ.Fn cx 22 [.str s] (.d (.bool (bk s))) []:=by
 refine eZ ⟨_,Tryz.func22,by kernel_rfl,by kernel_rfl⟩ rfl λw vs _ hK hD=>?_
 obtain⟨b,hb,rfl⟩:=fY (hD 0 _ rfl);rw[uV hK,hb];exact(Ek b w).mono λe w' ⟨he,hF⟩=>⟨_,he,hF,.fL _⟩
theorem va(s:Bs):NQ.Fn cx 81 [.str s] (.d (.bool (kQ s))) []:=by
 refine eZ ⟨_,Tryz.func81,by kernel_rfl,by kernel_rfl⟩ rfl λw vs _ hK hD=>?_
 obtain⟨b,hb,rfl⟩:=fY (hD 0 _ rfl);rw[uV hK,hb];exact(zd b w).mono λe w' ⟨he,hF⟩=>⟨_,he,hF ▸ Below.refl _ _,.fL _⟩
theorem Mn(s:Bs):NQ.Fn cx 201 [.str s] (.tuple [.d (.str (jd s).1),.d (.int .i64 (jd s).2)]) []:=by
 refine eZ ⟨_,Tryz.func201,by kernel_rfl,by kernel_rfl⟩ rfl λw vs _ hK hD=>?_
 obtain⟨b,hb,rfl⟩:=fY (hD 0 _ rfl);rw[uV hK,hb];exact(Ei b w).mono λe w' ⟨he,hF⟩=>⟨_,he,hF,LX (.d _ _ (.str _ _ (S_mk _))) (.mkInt _ _)⟩
theorem oe(s z:Bs):NQ.Fn cx 94 [.str s,.str z] (.tuple [.d (.bool (bJ s z).1),.d (.int .i64 (bJ s z).2)]) []:=by
 refine eZ ⟨_,Tryz.func94,by kernel_rfl,by kernel_rfl⟩ rfl λw vs _ hK hD=>?_
 obtain⟨b,hb,rfl⟩:=fY (hD 0 _ rfl);obtain⟨c,hc,rfl⟩:=fY (hD 1 _ rfl);rw[xN hK,hb,hc];exact(Hi b c w).mono λe w' ⟨he,hF⟩=>⟨_,he,hF,LX (.fL _) (.mkInt _ _)⟩
theorem zB(s z:Bs):NQ.Fn cx 204 [.str s,.str z] (.tuple [.d (.int .i64 (fh s z).1),.d (.int .i64 (fh s z).2)]) []:=by
 refine eZ ⟨_,Tryz.func204,by kernel_rfl,by kernel_rfl⟩ rfl λw vs _ hK hD=>?_
 obtain⟨b,hb,rfl⟩:=fY (hD 0 _ rfl);obtain⟨c,hc,rfl⟩:=fY (hD 1 _ rfl);rw[xN hK,hb,hc];exact(Dv b c w).mono λe w' ⟨he,hF⟩=>⟨_,he,hF,LX (.mkInt _ _) (.mkInt _ _)⟩
theorem Dt(x lo hi:Int):NQ.Fn cx 80 [.int .i64 x,.int .i64 lo,.int .i64 hi] (.d (.bool (within x lo hi))) []:=by
 refine eZ ⟨_,Tryz.func80,by kernel_rfl,by kernel_rfl⟩ rfl λw vs _ hK hD=>?_
 rw[Sk hK,xE (hD 0 _ rfl),xE (hD 1 _ rfl),xE (hD 2 _ rfl)];exact(kW x lo hi w).mono λe w' ⟨he,hF⟩=>⟨_,he,hF ▸ Below.refl _ _,.fL _⟩
theorem Qm(x:Int):NQ.Fn cx 93 [.int .i64 x] (.d (.bool false)) []:=by
 refine aU bp mixed Tryz.func93 ?_;conv=>whnf
 repeat' (first|(refine ak (λh=>?_) (λh=>?_) <;> (rw[h];conv=>whnf))|fail)
 all_goals (refine al rfl ?_;simp[D.ee])
theorem lL(x y:Int):NQ.Fn cx 44 [.int .i64 x,.int .i64 y] (.d (.int .i64 (dB x y))) []:=by
 refine aU bp mixed Tryz.func44 ?_;conv=>whnf
 repeat' (first|(refine⟨_,_,Qm _,?_⟩;conv=>whnf)|(refine ak (λh=>?_) (λh=>?_) <;> (rw[h];conv=>whnf))|fail)
 all_goals (refine al rfl ?_;simp_all [D.ee,dB];try omega)
theorem vw(x y:Bs):NQ.Fn cx 142 [.str x,.str y] (.d (.int .i64 (Go.Lib.compareBytes x y))) []:=by
 refine eZ ⟨_,Tryz.func142,by kernel_rfl,by kernel_rfl⟩ rfl λw vs _ hK hD=>?_
 obtain⟨b,hb,rfl⟩:=fY (hD 0 _ rfl);obtain⟨c,hc,rfl⟩:=fY (hD 1 _ rfl);rw[xN hK,hb,hc];exact(zV b c w).mono λe w' ⟨he,hF⟩=>⟨_,he,hF ▸ Below.refl _ _,.mkInt _ _⟩
end Go.Proofs.YtodofogcincleaaGreatDoor
namespace Go.Proofs.YtodofogcincleaaGreatDoor
open NQ Go.RowKit
def lV(l:List Int):Int:=(l.find? (· != 0)).getD 0
theorem Im{l:List Int}{k:Nat}(h:(List.range k).all (λi=>(l[i]?.getD 0)==0)=true)(hk:l.length<=k):lV l=0:=by
 have:l.find? (· != 0)=none:=by
  rw[List.find?_eq_none];intro x hx;obtain⟨j,hj,rfl⟩:=List.getElem_of_mem hx;have:=aH.1 h j (List.mem_range.2 (by omega));simpa [hj] using this
 rw[lV,this];rfl
theorem Io{l:List Int}:∀{k:Nat} {x:Int},(List.range k).all (λi=>(l[i]?.getD 0)==0)=true->l[k]? =some x->x≠0->lV l=x:=by
 induction l with
 |nil=>intro k x _ h;simp at h
 |cons a t ih =>
  intro k x h hx h0;cases k with
  |zero=>simp at hx;subst hx;simp[lV,h0]
  |succ k =>
   have ha:a=0:=by have:=aH.1 h 0 (List.mem_range.2 (by omega));simpa using this
   have:=ih (k:=k) (x:=x) (aH.2 λi hi=>by
    have:=aH.1 h (i+1) (List.mem_range.2 (by have:=List.mem_range.1 hi;omega));simpa using this) (by simpa using hx) h0
   simpa [lV,ha] using this
theorem JI(x y z:Int):lV [x,y,z]=if x=0 then(if y=0 then z else y)else x:=by
 by_cases hx:x=0 <;> by_cases hy:y=0 <;> by_cases hz:z=0 <;> simp[lV,hx,hy,hz]
theorem Nw(s:Bs):NQ.Fn cx 141 [.str s] (.d (.bool (cU s))) []:=by
 refine eZ ⟨_,Tryz.func141,by kernel_rfl,by kernel_rfl⟩ rfl λw vs _ hK hD=>?_
 obtain⟨b,hb,rfl⟩:=fY (hD 0 _ rfl);rw[uV hK,hb];exact(FJ b w).mono λe w' ⟨he,hF⟩=>⟨_,he,hF ▸ Below.refl _ _,.fL _⟩
theorem DI(r:yG)(d:Datum):NQ.Fn cx 82 [.agg (DZ r),.agg (aQ d)] (.d (.bool (nZ r d))) []:=by
 refine aU bp mixed Tryz.func82 ?_;conv=>whnf
 repeat' (first|(refine⟨_,_,Dt _ _ _,?_⟩;conv=>whnf)|(refine⟨_,_,va _,?_⟩;conv=>whnf)|(refine⟨_,_,mW _,?_⟩;conv=>whnf)|(refine⟨_,_,Nw _,?_⟩;conv=>whnf)|(refine ak (λh=>?_) (λh=>?_) <;> (rw[h];conv=>whnf))|fail)
 all_goals
  refine al rfl ?_;simp only[D.ee,nZ,wR]
  simp_all
def ky(n:Int):List D:=[.int .i64 n]
theorem DW(l:List Int)(hl:l.length<=1000):NQ.Fn cx 108 [.slice 1 (l.map ky)] (.d (.int .i64 (lV l))) []:=by
 refine aU bp mixed Tryz.func108 ?_;conv=>whnf
 refine⟨Nat,λk=>⟨[(0,.d (.slice 1 (l.map ky))),(3,.d (.int .i64 0)),(6,.d (.slice 1 (l.map ky))),(7,.d (.int .i64 ((l.map ky).length:Int))),(8,.d (.int .i64 k))],[]⟩,
  λk=>k<=l.length/\(List.range k).all (λi=>(l[i]?.getD 0)==0)=true,λk=>l.length-k,⟨0,⟨by omega,rfl⟩,aK.keep ⟨ae,ae,ae,ae,ae,trivial⟩ trivial⟩,λk ⟨hk,hB⟩=>?_⟩
 conv=>whnf
 refine ak (λh1=>?_) (λh1=>?_) <;> (rw[h1];conv=>whnf)
 .have hC:k<l.length:=by simp at h1;omega
  obtain⟨g,hg⟩:∃g,l[k]? =some g:=⟨_,au hC⟩
  refine⟨aD k,ky g,aN hg,?_⟩;conv=>whnf
  refine ak (λh=>?_) (λh=>?_) <;> (rw[h];conv=>whnf)
  .refine al rfl ?_;rw[Io hB hg (by simpa using h)];rfl
  .refine⟨k+1,⟨by omega,?_⟩,by(show l.length-(k+1)<l.length-k;omega),aK.keep ⟨ae,ae,ae,ae,⟨ax (by omega),rfl⟩,trivial⟩ trivial⟩;rw[dW,hB,hg];simpa using h
 .refine al rfl ?_;rw[Im hB (by simp at h1;omega)];rfl
theorem BK(a b:Datum):NQ.Fn cx 83 [.agg (aQ a),.agg (aQ b)] (.d (.int .i64 (fW a b))) []:=by
 refine aU bp mixed Tryz.func83 ?_;conv=>whnf
 repeat' (first|(refine bV ?_;conv=>whnf)|(refine⟨_,_,vw _ _,?_⟩;conv=>whnf)|(refine⟨_,_,lL _ _,?_⟩;conv=>whnf)|fail)
 refine⟨_,DW [_,_,_] (by simp),rfl,?_⟩;conv=>whnf
 refine al rfl ?_;rw[JI];rfl
def vE(r:yG)(i:Nat)(d p:Datum):Bool:= !nZ r d||(decide ((i:Int)>0)&&decide (fW p d>=0))
def xj(r:yG)(l:List Datum)(i:Nat):Bool:=match l[i]?, l[i-1]? with|some d,some p=> !vE r i d p|_,_=>false
theorem Fb{r:yG}{l:List Datum}{i:Nat}{d p:Datum}(h1:l[i]? =some d)(h2:l[i-1]? =some p):xj r l i= !vE r i d p:=by simp only[xj,h1,h2]
def dX(s:cG):Bool :=
 !((!bk s.name|| !within s.type 1 8|| !within s.aP 0 100000)|| !within s.data.length 1 8 ||
  (((tD s.type).single&&((s.data.length:Int) != 1))||(kQ s.name&& !(tD s.type).Mi)))&&(List.range s.data.length).all (xj (tD s.type) s.data)
theorem Lx{t:Int}(h:within t 1 8=true):0<=t/\t<9/\ ∃rest,wD.drop (t.toNat*8)=DZ (tD t)++rest:=by
 simp[within]at h;refine⟨by omega,by omega,?_⟩;have:t=1\/t=2\/t=3\/t=4\/t=5\/t=6\/t=7\/t=8:=by omega
 rcases this with rfl|rfl|rfl|rfl|rfl|rfl|rfl|rfl <;> exact⟨_,rfl⟩
theorem jI(s:cG):NQ.Fn cx 37 [.agg (cg s)] (.d (.bool (dX s))) []:=by
 refine aU bp mixed Tryz.func37 ?_;conv=>whnf
 repeat' (first|(refine⟨_,_,Dt _ _ _,?_⟩;conv=>whnf)|(refine⟨_,_,mW _,?_⟩;conv=>whnf)|(refine ak (λh=>?_) (λh=>?_) <;> (rw[h];conv=>whnf))|(refine al rfl ?_;show AV.d (D.bool false)=_;(try simp only[aA]at *);simp only[dX, *, if_true,if_false,aY];done)|fail)
 have ht:within s.type 1 8=true:=by simp_all
 obtain⟨t1,t2,rest,hU⟩:=Lx ht;refine⟨t1,t2,?_⟩;show iY (some (AV.d (.ptr (wD.drop (s.type.toNat*8))))) _
 rw[hU];generalize hr:tD s.type=r;conv=>whnf
 repeat' (first|(refine⟨_,_,va _,?_⟩;conv=>whnf)|(refine ak (λh=>?_) (λh=>?_) <;> (rw[h];conv=>whnf))|(refine al rfl ?_;show AV.d (D.bool false)=_;(try simp only[aA]at *);simp only[dX, *, if_true,if_false,aY];done)|fail)
 all_goals
  have hn:s.data.length<=8:=by simp[within]at *; omega
  have hE:dX s=(List.range s.data.length).all (xj r s.data):=by
   simp only[aA]at *;simp only[dX, *, if_true,if_false,aY]
  refine⟨Nat,λk=>⟨[(1,.ptr 1 0),(3,.ptr 3 0),(50,.d (.slice 3 (s.data.map aQ))),(51,.d (.int .i64 ((s.data.map aQ).length:Int))),(52,.d (.int .i64 k))],[(1,.box ((cg s).map .d)),(3,.box ((DZ r).map .d))]⟩,
   λk=>k<=s.data.length/\(List.range k).all (xj r s.data)=true,λk=>s.data.length-k,⟨0,⟨by omega,rfl⟩,aK.keep ⟨ae,ae,ae,ae,ae,trivial⟩ ⟨ae,⟨(by first|rfl|(show some (Blk.box [_,_,_,_,_,_,_,_])=_;simp only[DZ,List.map_cons,List.map_nil, *])),rfl⟩,trivial⟩⟩,λk ⟨hk,hB⟩=>?_⟩
  conv=>whnf
  refine ak (λh1=>?_) (λh1=>?_) <;> (rw[h1];conv=>whnf)
  .have hC:k<s.data.length:=by simp at h1;omega
   obtain⟨g,hg⟩:∃g,s.data[k]? =some g:=⟨_,au hC⟩
   obtain⟨p,hp⟩:∃p,s.data[k-1]? =some p:=⟨_,au (by omega)⟩
   have hG:=Fb (r:=r) hg hp;have hI:xj r s.data k=false->dX s=false:=λhh=>by rw[hE,dK hC hh]
   refine⟨aD k,aQ g,aN hg,?_⟩;conv=>whnf
   repeat' (first
    |(refine bV ?_;conv=>whnf)
    |(refine⟨_,_,DI r g,?_⟩;conv=>whnf)
    |(refine⟨_,_,BK p g,?_⟩;conv=>whnf)
    |(refine ak (λh=>?_) (λh=>?_) <;> (rw[h];conv=>whnf))
    |(refine⟨(na (by assumption) (by omega)).1,aQ p,lR (by assumption) (by omega) hp,?_⟩;conv=>whnf)
    |fail)
   all_goals first
    |(refine al rfl ?_;show AV.d (D.bool false)=_;rw[hI (by rw[hG];simp only[vE, *, if_true,if_false,aY])])
    |(refine⟨k+1,⟨by omega,?_⟩,by(show s.data.length-(k+1)<s.data.length-k;omega),aK.keep ⟨ae,ae,ae,ae,⟨ax (by omega),rfl⟩,trivial⟩ ⟨ae,ae,trivial⟩⟩;rw[dW,hB,hG];simp only[vE, *, if_true,if_false,aY])
    |fail
  .refine al rfl ?_;obtain rfl:k=s.data.length:=by simp at h1;omega
   show AV.d (D.bool true)=_
   rw[hE,hB]
def rB(a:Bs)(s:Int)(b:Bs)(t:Int):Int:=if a=b then dB s t else(fh a b).1
def fits(t:Int)(ap:Bool):Bool:=if t=3\/t=6 then !ap else if t=4\/t=7 then ap else true
def Bb(i:Nat)(af:Bs)(g f p:Sig):Bool :=
 !(g.ah==af)||decide (g.key<1)||decide (g.key>1000000)||decide (g.alg<1)||decide (g.alg>3)||(decide (g.since<0)||decide (g.since>g.aO)||decide (g.aO>20000000)) ||
  (decide ((i:Int)>0)&&(g.since != f.since||g.aO != f.aO||decide (g.key<=p.key)))
def xG(l:List Sig)(af:Bs)(i:Nat):Bool :=
 match l[i]?, l[0]?, l[i-1]? with
 |some g,some f,some p=> !Bb i af g f p
 |_,_,_=>false
theorem Rh{l:List Sig}{af:Bs}{k:Nat}{g f p:Sig}(hg:l[k]? =some g)(hf:l[0]? =some f)(hp:l[k-1]? =some p):xG l af k= !Bb k af g f p:=by
 simp only[xG,hg,hf,hp]
def lS(l:List Sig)(af:Bs):Bool:= !decide ((l.length:Int)>6)&&(List.range l.length).all (xG l af)
theorem qA(a:Bs)(s:Int)(b:Bs)(t:Int):NQ.Fn cx 143 [.str a,.int .i64 s,.str b,.int .i64 t] (.d (.int .i64 (rB a s b t))) []:=by
 refine aU bp mixed Tryz.func143 ?_;conv=>whnf
 repeat' (first|(refine ak (λh=>?_) (λh=>?_) <;> (rw[h];conv=>whnf))|(refine⟨_,_,zB _ _,?_⟩;conv=>whnf)|(refine⟨_,_,lL _ _,?_⟩;conv=>whnf)|fail)
 all_goals (refine al rfl ?_;simp_all [D.ee,rB])
theorem Hv(t:Int)(ap:Bool):NQ.Fn cx 145 [.int .i64 t,.bool ap] (.d (.bool (fits t ap))) []:=by
 refine aU bp mixed Tryz.func145 ?_;conv=>whnf
 repeat' (first|(refine ak (λh=>?_) (λh=>?_) <;> (rw[h];conv=>whnf))|fail)
 all_goals (refine al rfl ?_;simp_all [D.ee,fits])
theorem Ns(l:List Sig)(af:Bs):NQ.Fn cx 146 [.slice 6 (l.map gK),.str af] (.d (.bool (lS l af))) []:=by
 refine aU bp mixed Tryz.func146 ?_;conv=>whnf
 refine ak (λh=>?_) (λh=>?_) <;> (rw[h];conv=>whnf)
 . (refine al rfl ?_;show AV.d (D.bool false)=_;(try simp only[aA]at *);simp only[lS, *, if_true,if_false,aY];done)
 .have hl:l.length<=6:=by simp at h;omega
  have hE:lS l af=(List.range l.length).all (xG l af):=by
   simp only[aA]at h;simp only[lS,h,if_true,if_false,aY]
  refine⟨Nat,λk=>⟨[(0,.d (.slice 6 (l.map gK))),(1,.d (.str af)),(10,.d (.slice 6 (l.map gK))),(11,.d (.int .i64 ((l.map gK).length:Int))),(12,.d (.int .i64 k))],[]⟩,λk=>k<=l.length/\(List.range k).all (xG l af)=true,λk=>l.length-k,⟨0,⟨by omega,rfl⟩,aK.keep ⟨ae,ae,ae,ae,ae,trivial⟩ trivial⟩,λk ⟨hk,hB⟩=>?_⟩;conv=>whnf
  refine ak (λh1=>?_) (λh1=>?_) <;> (rw[h1];conv=>whnf)
  .have hC:k<l.length:=by simp at h1;omega
   obtain⟨g,hg⟩:∃g,l[k]? =some g:=⟨_,au hC⟩
   obtain⟨f,hf⟩:∃f,l[0]? =some f:=⟨_,au (by omega)⟩
   obtain⟨p,hp⟩:∃p,l[k-1]? =some p:=⟨_,au (by omega)⟩
   have hG:=Rh (af:=af) hg hf hp;have hI:xG l af k=false->lS l af=false:=λhh=>by rw[hE,dK hC hh]
   refine⟨aD k,gK g,aN hg,?_⟩;conv=>whnf
   repeat' (first
    |(refine ak (λh=>?_) (λh=>?_) <;> (rw[h];conv=>whnf))
    |(refine bV ?_;conv=>whnf)
    |(refine⟨(by decide:(0:Int)<=0),gK f,aN hf,?_⟩;conv=>whnf)
    |(refine⟨(na (by assumption) (by omega)).1,gK p,lR (by assumption) (by omega) hp,?_⟩;conv=>whnf)
    |fail)
   all_goals first
    |(refine al rfl ?_;show AV.d (D.bool false)=_;rw[hI (by rw[hG];simp only[Bb, *, if_true,if_false,aY])])
    |(refine⟨k+1,⟨by omega,?_⟩,by(show l.length-(k+1)<l.length-k;omega),aK.keep ⟨ae,ae,ae,ae,⟨ax (by omega),rfl⟩,trivial⟩ trivial⟩;rw[dW,hB,hG];simp only[Bb, *, if_true,if_false,aY])
    |fail
  .refine al rfl ?_;obtain rfl:k=l.length:=by simp at h1;omega
   show AV.d (D.bool true)=_
   rw[hE,hB]
theorem Fm(s:Signed)(q:ed):NQ.Fn cx 206 [.agg (aw s),.agg (pn q)] (.d (.int .i64 (rB s.set.name s.set.type q.name q.type))) []:=by
 refine aU bp mixed Tryz.func206 ?_;conv=>whnf
 (refine⟨_,_,qA _ _ _ _,?_⟩;conv=>whnf)
 exact al rfl rfl
def plc(s:Signed)(q:ed):Int:=rB s.set.name s.set.type q.name q.type
def Split(l:List Signed)(q:ed)(c:Nat):Prop:=c<=l.length/\(∀i s,l[i]? =some s->i<c->plc s q<0)/\(∀i s,l[i]? =some s->c<=i->0<=plc s q)
def foundAt(l:List Signed)(q:ed)(c:Nat):Bool:=match l[c]? with|some s=>plc s q==0|none=>false
theorem NN{i j:Nat}(h:i+j<=1000000000):IntKind.i64.wrap ((IntKind.u64.wrap (IntKind.i64.wrap ((i:Int)+(j:Int)))).fdiv (2 ^ min (Int.toNat 1) IntKind.u64.bits))=(((i+j) / 2:Nat):Int):=by
 rw[show((2:Int) ^ min (Int.toNat 1) IntKind.u64.bits)=2 from rfl];have h1:IntKind.i64.wrap ((i:Int)+(j:Int))=((i+j:Nat):Int):=by rw[wrap_i64 (by omega) (by omega)];omega
 have h2:IntKind.u64.wrap ((i+j:Nat):Int)=((i+j:Nat):Int):=by simp[IntKind.wrap,IntKind.signed,IntKind.bits];omega
 rw[h1,h2,Int.fdiv_eq_ediv_of_nonneg _ (by decide),wrap_i64 (by omega) (by omega)];omega
theorem Oj(l:List Signed)(q:ed)(c:Nat)(hl:l.length<=100000)(hc:Split l q c) :
 NQ.Fn cx 205 [.slice 5 (l.map aw),.agg (pn q),.fn 206 [] []] (.tuple [.d (.int .i64 c),.d (.bool (foundAt l q c))]) []:=by
 refine aU bp mixed Tryz.func205 ?_;conv=>whnf
 refine⟨Nat×Nat,λx=>⟨[(0,.d (.slice 5 (l.map aw))),(2,.d (.fn 206 [] [])),(4,.ptr 4 0),(8,.d (.int .i64 ((l.map aw).length:Int))),(9,.d (.int .i64 x.1)),(10,.d (.int .i64 x.2))],[(4,.box ((pn q).map .d))]⟩,
  λx=>x.1<=c/\c<=x.2/\x.2<=l.length,λx=>x.2-x.1,⟨(0,l.length),⟨by omega,hc.1,by omega⟩,aK.keep ⟨ae,ae,ae,ae,ae,⟨(by show AV.d (D.int _ _)=_;simp),rfl⟩,trivial⟩ ⟨ae,trivial⟩⟩,λ⟨i,j⟩ ⟨h1,h2,h3⟩=>?_⟩
 dsimp only at h1 h2 h3 ⊢;conv=>whnf
 refine ak (λh=>?_) (λh=>?_) <;> (rw[h];conv=>whnf)
 .have ku:i<j:=by simp at h;omega
  (refine bV ?_;conv=>whnf)
  rw[NN (by omega)];obtain⟨s,hs⟩:∃s,l[(i+j) / 2]? =some s:=⟨_,au (by omega)⟩
  refine⟨aD _,aw s,aN hs,?_⟩;conv=>whnf
  (refine⟨_,_,Fm s q,?_⟩;conv=>whnf)
  refine ak (λh=>?_) (λh=>?_) <;> (rw[h];conv=>whnf)
  .have hC:(i+j) / 2<c:=by
    rcases Nat.lt_or_ge ((i+j) / 2) c with hh|hh
    .exact hh
    .have:=hc.2.2 _ s hs hh;simp[plc]at h this;omega
   exact⟨((i+j) / 2+1,j),⟨by dsimp only;omega,h2,h3⟩,by dsimp only;omega,aK.keep ⟨ae,ae,ae,ae,⟨ax (by omega),rfl⟩,ae,trivial⟩ ⟨ae,trivial⟩⟩
  .have hW:c<=(i+j) / 2:=by
    rcases Nat.lt_or_ge ((i+j) / 2) c with hh|hh
    .have:=hc.2.1 _ s hs hh;simp[plc]at h this;omega
    .exact hh
   exact⟨(i,(i+j) / 2),⟨h1,hW,by dsimp only;omega⟩,by dsimp only;omega,aK.keep ⟨ae,ae,ae,ae,ae,ae,trivial⟩ ⟨ae,trivial⟩⟩
 .obtain rfl:i=c:=by simp at h;omega
  clear h
  (refine bV ?_;conv=>whnf)
  refine ak (λh=>?_) (λh=>?_) <;> (rw[h];conv=>whnf)
  .have hC:i<l.length:=by simp at h;omega
   obtain⟨s,hs⟩:∃s,l[i]? =some s:=⟨_,au hC⟩
   refine⟨aD _,aw s,aN hs,?_⟩;conv=>whnf
   (refine⟨_,_,Fm s q,?_⟩;conv=>whnf)
   refine al rfl ?_;show AV.tuple [AV.d (.int .i64 i),AV.d (.bool _)]=_
   simp[foundAt,plc,hs]
  .refine al rfl ?_;show AV.tuple [AV.d (.int .i64 i),AV.d (.bool _)]=_
   have:l[i]? =none:=by simp at h;simp;omega
   simp[foundAt,this]
theorem SF(z:aL)(q:ed)(c:Nat)(hl:z.aj.length<=100000)(hc:Split z.aj q c) :
 NQ.Fn cx 144 [.agg (aX z),.agg (pn q)] (.tuple [.d (.int .i64 c),.d (.bool (foundAt z.aj q c))]) []:=by
 refine aU bp mixed Tryz.func144 ?_;conv=>whnf
 (refine⟨_,_,Oj z.aj q c hl hc,?_⟩;conv=>whnf)
 exact al rfl rfl
def mN(af:Bs)(i:Nat)(s p:Signed):Bool:= !dX s.set|| !(bJ s.set.name af).1||(!((i:Int)==0)&&decide (rB p.set.name p.set.type s.set.name s.set.type>=0))
def rR(z:aL)(i:Nat):Bool:=match z.aj[i]?, z.aj[i-1]? with|some s,some p=> !mN z.af i s p|_,_=>false
theorem qS{z:aL}{i:Nat}{s p:Signed}(h1:z.aj[i]? =some s)(h2:z.aj[i-1]? =some p):rR z i= !mN z.af i s p:=by simp only[rR,h1,h2]
def ordered(z:aL):Bool:= !((!bk z.af||kQ z.af)||decide ((z.aj.length:Int)>20000))&&(List.range z.aj.length).all (rR z)
theorem Jo{k:Nat}(h:((k:Int)==0)=false):decide ((k:Int)>0)=true:=by simp at h ⊢;omega
theorem IE(s:Bs):Go.Lib.hasPrefix s [42]=kQ s:=by
 unfold Go.Lib.hasPrefix kQ;cases s with
 |nil=>rfl
 |cons c t=>simp only[List.isPrefixOf,List.head?_cons];rw[Bool.eq_iff_iff];simp;exact eq_comm
theorem JR(s:Bs):NQ.Fn cx 95 [.str s,.str [42]] (.d (.bool (kQ s))) []:=by
 refine eZ ⟨_,Tryz.func95,by kernel_rfl,by kernel_rfl⟩ rfl λw vs _ hK hD=>?_
 obtain⟨b,hb,rfl⟩:=fY (hD 0 _ rfl);obtain⟨c,hc,hS⟩:=fY (hD 1 _ rfl);rw[xN hK,hb,hc];refine(Tryz.strings_HasPrefix _ _ _).mono ?_;rintro e w' ⟨rfl,rfl⟩;rw[hS,IE];exact⟨_,rfl,Below.refl _ _,.fL _⟩
theorem Lm(z:aL):NQ.Fn cx 84 [.agg (aX z)] (.d (.bool (ordered z))) []:=by
 refine aU bp mixed Tryz.func84 ?_;conv=>whnf
 repeat' (first|(refine⟨_,_,mW _,?_⟩;conv=>whnf)|(refine⟨_,_,JR _,?_⟩;conv=>whnf)|(refine ak (λh=>?_) (λh=>?_) <;> (rw[h];conv=>whnf))|(refine al rfl ?_;show AV.d (D.bool false)=_;(try simp only[aA]at *);simp only[ordered, *, if_true,if_false,aY];done)|fail)
 have hn:z.aj.length<=20000:=by simp at *; omega
 have hE:ordered z=(List.range z.aj.length).all (rR z):=by
  simp only[aA]at *;simp only[ordered, *, if_true,if_false,aY]
 refine⟨Nat,λk=>⟨[(1,.ptr 1 0),(28,.d (.slice 5 (z.aj.map aw))),(29,.d (.int .i64 ((z.aj.map aw).length:Int))),(30,.d (.int .i64 k))],[(1,.box ((aX z).map .d))]⟩,
  λk=>k<=z.aj.length/\(List.range k).all (rR z)=true,λk=>z.aj.length-k,⟨0,⟨by omega,rfl⟩,aK.keep ⟨ae,ae,ae,ae,trivial⟩ ⟨ae,trivial⟩⟩,λk ⟨hk,hB⟩=>?_⟩
 conv=>whnf
 refine ak (λh1=>?_) (λh1=>?_) <;> (rw[h1];conv=>whnf)
 .have hC:k<z.aj.length:=by simp at h1;omega
  obtain⟨s,hs⟩:∃s,z.aj[k]? =some s:=⟨_,au hC⟩
  obtain⟨p,hp⟩:∃p,z.aj[k-1]? =some p:=⟨_,au (by omega)⟩
  have hG:=qS hs hp;have hI:rR z k=false->ordered z=false:=λhh=>by rw[hE,dK hC hh]
  refine⟨aD k,aw s,aN hs,?_⟩;conv=>whnf
  repeat' (first
   |(refine⟨_,_,jI s.set,?_⟩;conv=>whnf)
   |(refine⟨_,_,oe _ _,?_⟩;conv=>whnf)
   |(refine⟨_,_,qA _ _ _ _,?_⟩;conv=>whnf)
   |(refine ak (λh=>?_) (λh=>?_) <;> (rw[h];conv=>whnf))
   |(refine bV ?_;conv=>whnf)
   |(refine⟨(na (Jo (by assumption)) (by omega)).1,aw p,lR (Jo (by assumption)) (by omega) hp,?_⟩;conv=>whnf)
   |fail)
  all_goals first
   |(refine al rfl ?_;show AV.d (D.bool false)=_;rw[hI (by rw[hG];simp only[mN, *, if_true,if_false,aY])])
   |(refine⟨k+1,⟨by omega,?_⟩,by(show z.aj.length-(k+1)<z.aj.length-k;omega),aK.keep ⟨ae,ae,ae,⟨ax (by omega),rfl⟩,trivial⟩ ⟨ae,trivial⟩⟩;rw[dW,hB,hG];simp only[mN, *, if_true,if_false,aY])
   |fail
 .refine al rfl ?_;obtain rfl:k=z.aj.length:=by simp at h1;omega
  show AV.d (D.bool true)=_
  rw[hE,hB]
def rF(z:aL)(i:Nat):Bool:=match z.aj[i]? with|some s=>fits s.set.type (s.set.name==z.af)|none=>false
def pM(has:Int->Bool)(z:aL):Bool:=has 4&&has 2&&(List.range z.aj.length).all (rF z)
theorem Ev(z:aL)(hn:z.aj.length<=100000)(pos:Int->Nat)(has:Int->Bool)(hf:∀t,NQ.Fn cx 144 [.agg (aX z),.agg (pn ⟨z.af,t⟩)] (.tuple [.d (.int .i64 (pos t)),.d (.bool (has t))]) []) :
 NQ.Fn cx 85 [.agg (aX z)] (.d (.bool (pM has z))) []:=by
 refine aU bp mixed Tryz.func85 ?_;conv=>whnf
 refine⟨Nat,λk=>⟨[(1,.ptr 1 0),(9,.own 9),(10,.d (.int .i64 2)),(11,.d (.int .i64 k))],[(1,.box ((aX z).map .d)),(9,.row 3 1 [[.int .i64 4],[.int .i64 2]])]⟩,
  λk=>k<=2/\(0<k->has 4=true)/\(1<k->has 2=true),λk=>2-k,⟨0,⟨by omega,by omega,by omega⟩,aK.keep ⟨ae,ae,ae,ae,trivial⟩ ⟨ae,ae,trivial⟩⟩,λk ⟨hk,ha,hb⟩=>?_⟩
 conv=>whnf
 refine ak (λh1=>?_) (λh1=>?_) <;> (rw[h1];conv=>whnf)
 .have hC:k<2:=by simp at h1;omega
  have kv:k=0\/k=1:=by omega
  rcases kv with rfl|rfl
  .refine⟨by decide,by decide,?_⟩;conv=>whnf
   refine⟨[.int .i64 4],rfl,?_⟩;conv=>whnf
   (refine⟨_,_,hf 4,?_⟩;conv=>whnf)
   refine ak (λh=>?_) (λh=>?_) <;> (rw[h];conv=>whnf)
   .refine al rfl ?_;have h4:has 4=false:=by simpa using h
    simp[D.ee,pM,h4]
   .exact⟨1,⟨by omega,λ_=>by simpa using h,by omega⟩,by decide,aK.keep ⟨ae,ae,ae,⟨ax (by omega),rfl⟩,trivial⟩ ⟨ae,ae,trivial⟩⟩
  .refine⟨by decide,by decide,?_⟩;conv=>whnf
   refine⟨[.int .i64 2],rfl,?_⟩;conv=>whnf
   (refine⟨_,_,hf 2,?_⟩;conv=>whnf)
   refine ak (λh=>?_) (λh=>?_) <;> (rw[h];conv=>whnf)
   .refine al rfl ?_;have h4:has 2=false:=by simpa using h
    simp[D.ee,pM,h4]
   .exact⟨2,⟨by omega,λ_=>ha (by omega),λ_=>by simpa using h⟩,by decide,aK.keep ⟨ae,ae,ae,⟨ax (by omega),rfl⟩,trivial⟩ ⟨ae,ae,trivial⟩⟩
 .have h2:k=2:=by simp at h1;omega
  have h4:=ha (by omega);have h5:=hb (by omega);have hE:pM has z=(List.range z.aj.length).all (rF z):=by simp only[pM,h4,h5,if_true,if_false,aY]
  clear h1 ha hb;refine⟨Nat,λk=>⟨[(1,.ptr 1 0),(30,.d (.slice 5 (z.aj.map aw))),(31,.d (.int .i64 ((z.aj.map aw).length:Int))),(32,.d (.int .i64 k))],[(1,.box ((aX z).map .d))]⟩,
   λk=>k<=z.aj.length/\(List.range k).all (rF z)=true,λk=>z.aj.length-k,⟨0,⟨by omega,rfl⟩,aK.keep ⟨ae,ae,ae,ae,trivial⟩ ⟨ae,trivial⟩⟩,λk ⟨hk,hB⟩=>?_⟩
  conv=>whnf
  refine ak (λh1=>?_) (λh1=>?_) <;> (rw[h1];conv=>whnf)
  .have hC:k<z.aj.length:=by simp at h1;omega
   obtain⟨s,hs⟩:∃s,z.aj[k]? =some s:=⟨_,au hC⟩
   have hG:rF z k=fits s.set.type (s.set.name==z.af):=by simp only[rF,hs]
   have hI:rF z k=false->pM has z=false:=λhh=>by rw[hE,dK hC hh]
   refine⟨aD k,aw s,aN hs,?_⟩;conv=>whnf
   repeat' (first|(refine⟨_,_,Hv _ _,?_⟩;conv=>whnf)|(refine ak (λh=>?_) (λh=>?_) <;> (rw[h];conv=>whnf))|(refine bV ?_;conv=>whnf)|fail)
   all_goals first
    |(refine al rfl ?_;show AV.d (D.bool false)=_;rw[hI (by rw[hG];simp_all)])
    |(refine⟨k+1,⟨by omega,?_⟩,by(show z.aj.length-(k+1)<z.aj.length-k;omega),aK.keep ⟨ae,ae,ae,⟨ax (by omega),rfl⟩,trivial⟩ ⟨ae,trivial⟩⟩;rw[dW,hB,hG];simp_all)
    |fail
  .refine al rfl ?_;obtain rfl:k=z.aj.length:=by simp at h1;omega
   show AV.d (D.bool true)=_
   rw[hE,hB]
def ck(s:Bs):List D:=[.str s]
def sA(z:aL)(b:List Bs):List D:=[.str z.af,.slice 5 (z.aj.map aw),.slice 1 (b.map ck)]
def vj(n i:Nat)(s p x:Signed):Bool :=
 !(s.set.type != 3)&&((decide ((i:Int)>0)&&(p.set.name==s.set.name))||(decide (((i:Nat):Int)+1<(n:Int))&&(x.set.name==s.set.name)&&(x.set.type != 8)))
def oN(z:aL)(i:Nat):Bool :=
 match z.aj[i]? with
 |some s=> !vj z.aj.length i s ((z.aj[i-1]?).getD s) ((z.aj[i+1]?).getD s)
 |none=>false
def aliases(z:aL):Bool:=(List.range z.aj.length).all (oN z)
def qB(s:Signed)(b:Bs):Bool :=
 if (b==[])=true then s.set.type==6
 else if (b==s.set.name)=true then(s.set.type != 2)&&(s.set.type != 6)&&(s.set.type != 8)&&(s.set.type != 1)
 else s.set.type != 1
def cutAt(z:aL)(b:List Bs)(i:Nat):Bool:=match z.aj[i]?, b[i]? with|some s,some x=> !qB s x|_,_=>false
def ub(z:aL)(b:List Bs):Bool:=(List.range z.aj.length).all (cutAt z b)
def qX(s:Signed)(b:Bs):Bool:=(!(b==[])&&((s.set.type==2)||(s.set.type==1)))&&decide ((s.sigs.length:Int)>0)
def uL(z:aL)(b:List Bs)(i:Nat):Bool:=match z.aj[i]?, b[i]? with|some s,some x=> !qX s x|_,_=>false
def uM(z:aL)(b:List Bs):Bool:=(List.range z.aj.length).all (uL z b)
def pT(z:aL)(i:Nat):Bool:=match z.aj[i]? with|some s=>lS s.sigs z.af|none=>false
def ui(z:aL):Bool:=(List.range z.aj.length).all (pT z)
theorem wrap_add{k:Nat}(hk:k<=4611686018427387904):IntKind.i64.wrap ((k:Int)+1)=(k:Int)+1:=wrap_i64 (by omega) (by omega)
theorem QL{α:Type}{f:α->List D}{l:List α}{k:Nat}{g:α}(hg:l[k+1]? =some g):(l.map f)[((k:Int)+1).toNat]? =some (f g):=by
 rw[show((k:Int)+1).toNat=k+1 by omega];simp[hg]
theorem BD(z:aL)(b:List Bs)(hn:z.aj.length<=100000):NQ.Fn cx 87 [.agg (sA z b)] (.d (.bool (aliases z))) []:=by
 refine aU bp mixed Tryz.func87 ?_;conv=>whnf
 have hE:aliases z=(List.range z.aj.length).all (oN z):=rfl;refine⟨Nat,λk=>⟨[(1,.ptr 1 0),(8,.d (.slice 5 (z.aj.map aw))),(9,.d (.int .i64 ((z.aj.map aw).length:Int))),(10,.d (.int .i64 k))],[(1,.box ((sA z b).map .d))]⟩,λk=>k<=z.aj.length/\(List.range k).all (oN z)=true,λk=>z.aj.length-k,⟨0,⟨by omega,rfl⟩,aK.keep ⟨ae,ae,ae,ae,trivial⟩ ⟨ae,trivial⟩⟩,λk ⟨hk,hB⟩=>?_⟩;(conv=>whnf);refine ak (λh1=>?_) (λh1=>?_) <;> (rw[h1];conv=>whnf)
 .have hC:k<z.aj.length:=by simp at h1;omega
  obtain⟨s,hs⟩:∃s,z.aj[k]? =some s:=⟨_,au hC⟩
  obtain⟨p,hp⟩:∃p,z.aj[k-1]? =some p:=⟨_,au (by omega)⟩
  obtain⟨x,hx⟩:∃x,x=(z.aj[k+1]?).getD s:=⟨_,rfl⟩
  have hG:oN z k= !vj z.aj.length k s p x:=by simp only[oN,hs,hp,Option.getD_some, <- hx]
  have hI:oN z k=false->aliases z=false:=λhh=>by rw[hE,dK hC hh]
  have kG:k+1<z.aj.length->z.aj[k+1]? =some x:=λhq=>by rw[hx,au hq];rfl
  clear hx;have hw:=wrap_add (k:=k) (by omega);refine⟨aD k,aw s,aN hs,?_⟩;conv=>whnf
  repeat' (first
   |(refine bV ?_;conv=>whnf)
   |(refine al rfl ?_;show AV.d (D.bool false)=_;(try simp only[aA]at *);rw[hI (by rw[hG];simp only[vj, *, if_true,if_false,aY])];done)
   |(refine⟨k+1,⟨by omega,?_⟩,by(show z.aj.length-(k+1)<z.aj.length-k;omega),aK.keep ⟨ae,ae,ae,⟨ax (by omega),rfl⟩,trivial⟩ ⟨ae,trivial⟩⟩;rw[dW,hB,hG];((try simp only[aA]at *);simp only[vj, *, if_true,if_false,aY];done))
   |(rw[hw];(refine ak (λh=>?_) (λh=>?_) <;> (rw[h];conv=>whnf)))
   |(refine ak (λh=>?_) (λh=>?_) <;> (rw[h];conv=>whnf))
   |(refine⟨(na (by assumption) (by omega)).1,aw p,lR (by assumption) (by omega) hp,?_⟩;conv=>whnf)
   |(rw[hw];refine⟨by omega,aw x,QL (by have hq:= ‹decide (((k:Nat):Int)+1<_)=true›;exact kG (by simp at hq;omega)),?_⟩;conv=>whnf)
   |fail)
 . (refine al rfl ?_;obtain rfl:k=z.aj.length:=(by simp at h1;omega);show AV.d (D.bool true)=_;rw[hE,hB])
theorem Hr(z:aL)(b:List Bs)(hn:z.aj.length<=100000)(hb:b.length=z.aj.length):NQ.Fn cx 88 [.agg (sA z b)] (.d (.bool (ub z b))) []:=by
 refine aU bp mixed Tryz.func88 ?_;conv=>whnf
 have hE:ub z b=(List.range z.aj.length).all (cutAt z b):=rfl;refine⟨Nat,λk=>⟨[(1,.ptr 1 0),(9,.d (.slice 5 (z.aj.map aw))),(10,.d (.int .i64 ((z.aj.map aw).length:Int))),(11,.d (.int .i64 k))],[(1,.box ((sA z b).map .d))]⟩,λk=>k<=z.aj.length/\(List.range k).all (cutAt z b)=true,λk=>z.aj.length-k,⟨0,⟨by omega,rfl⟩,aK.keep ⟨ae,ae,ae,ae,trivial⟩ ⟨ae,trivial⟩⟩,λk ⟨hk,hB⟩=>?_⟩;(conv=>whnf);refine ak (λh1=>?_) (λh1=>?_) <;> (rw[h1];conv=>whnf)
 .have hC:k<z.aj.length:=by simp at h1;omega
  obtain⟨s,hs⟩:∃s,z.aj[k]? =some s:=⟨_,au hC⟩
  obtain⟨x,hx⟩:∃x,b[k]? =some x:=⟨_,au (by omega)⟩
  have hG:cutAt z b k= !qB s x:=by simp only[cutAt,hs,hx]
  have hI:cutAt z b k=false->ub z b=false:=λhh=>by rw[hE,dK hC hh]
  refine⟨aD k,aw s,aN hs,?_⟩;conv=>whnf
  repeat' (first
   |(refine bV ?_;conv=>whnf)
   |(refine al rfl ?_;show AV.d (D.bool false)=_;(try simp only[aA]at *);rw[hI (by rw[hG];simp only[qB, *, if_true,if_false,aY])];done)
   |(refine⟨k+1,⟨by omega,?_⟩,by(show z.aj.length-(k+1)<z.aj.length-k;omega),aK.keep ⟨ae,ae,ae,⟨ax (by omega),rfl⟩,trivial⟩ ⟨ae,trivial⟩⟩;rw[dW,hB,hG];((try simp only[aA]at *);simp only[qB, *, if_true,if_false,aY];done))
   |(refine⟨aD k,ck x,aN hx,?_⟩;conv=>whnf)
   |(refine ak (λh=>?_) (λh=>?_) <;> (rw[h];conv=>whnf))
   |fail)
 . (refine al rfl ?_;obtain rfl:k=z.aj.length:=(by simp at h1;omega);show AV.d (D.bool true)=_;rw[hE,hB])
theorem Iw(z:aL)(b:List Bs)(hn:z.aj.length<=100000)(hb:b.length=z.aj.length):NQ.Fn cx 89 [.agg (sA z b)] (.d (.bool (uM z b))) []:=by
 refine aU bp mixed Tryz.func89 ?_;conv=>whnf
 have hE:uM z b=(List.range z.aj.length).all (uL z b):=rfl;refine⟨Nat,λk=>⟨[(1,.ptr 1 0),(9,.d (.slice 5 (z.aj.map aw))),(10,.d (.int .i64 ((z.aj.map aw).length:Int))),(11,.d (.int .i64 k))],[(1,.box ((sA z b).map .d))]⟩,λk=>k<=z.aj.length/\(List.range k).all (uL z b)=true,λk=>z.aj.length-k,⟨0,⟨by omega,rfl⟩,aK.keep ⟨ae,ae,ae,ae,trivial⟩ ⟨ae,trivial⟩⟩,λk ⟨hk,hB⟩=>?_⟩;(conv=>whnf);refine ak (λh1=>?_) (λh1=>?_) <;> (rw[h1];conv=>whnf)
 .have hC:k<z.aj.length:=by simp at h1;omega
  obtain⟨s,hs⟩:∃s,z.aj[k]? =some s:=⟨_,au hC⟩
  obtain⟨x,hx⟩:∃x,b[k]? =some x:=⟨_,au (by omega)⟩
  have hG:uL z b k= !qX s x:=by simp only[uL,hs,hx]
  have hI:uL z b k=false->uM z b=false:=λhh=>by rw[hE,dK hC hh]
  refine⟨aD k,aw s,aN hs,?_⟩;conv=>whnf
  repeat' (first
   |(refine bV ?_;conv=>whnf)
   |(refine al rfl ?_;show AV.d (D.bool false)=_;(try simp only[aA]at *);rw[hI (by rw[hG];simp only[qX, *, if_true,if_false,aY])];done)
   |(refine⟨k+1,⟨by omega,?_⟩,by(show z.aj.length-(k+1)<z.aj.length-k;omega),aK.keep ⟨ae,ae,ae,⟨ax (by omega),rfl⟩,trivial⟩ ⟨ae,trivial⟩⟩;rw[dW,hB,hG];((try simp only[aA]at *);simp only[qX, *, if_true,if_false,aY];done))
   |(refine⟨aD k,ck x,aN hx,?_⟩;conv=>whnf)
   |(refine ak (λh=>?_) (λh=>?_) <;> (rw[h];conv=>whnf))
   |fail)
 . (refine al rfl ?_;obtain rfl:k=z.aj.length:=(by simp at h1;omega);show AV.d (D.bool true)=_;rw[hE,hB])
theorem Fu(z:aL)(b:List Bs)(hn:z.aj.length<=100000):NQ.Fn cx 90 [.agg (sA z b)] (.d (.bool (ui z))) []:=by
 refine aU bp mixed Tryz.func90 ?_;conv=>whnf
 have hE:ui z=(List.range z.aj.length).all (pT z):=rfl;refine⟨Nat,λk=>⟨[(1,.ptr 1 0),(8,.d (.slice 5 (z.aj.map aw))),(9,.d (.int .i64 ((z.aj.map aw).length:Int))),(10,.d (.int .i64 k))],[(1,.box ((sA z b).map .d))]⟩,λk=>k<=z.aj.length/\(List.range k).all (pT z)=true,λk=>z.aj.length-k,⟨0,⟨by omega,rfl⟩,aK.keep ⟨ae,ae,ae,ae,trivial⟩ ⟨ae,trivial⟩⟩,λk ⟨hk,hB⟩=>?_⟩;(conv=>whnf);refine ak (λh1=>?_) (λh1=>?_) <;> (rw[h1];conv=>whnf)
 .have hC:k<z.aj.length:=by simp at h1;omega
  obtain⟨s,hs⟩:∃s,z.aj[k]? =some s:=⟨_,au hC⟩
  have hG:pT z k= !(!lS s.sigs z.af):=by simp only[pT,hs,OQ]
  have hI:pT z k=false->ui z=false:=λhh=>by rw[hE,dK hC hh]
  refine⟨aD k,aw s,aN hs,?_⟩;conv=>whnf
  repeat' (first
   |(refine bV ?_;conv=>whnf)
   |(refine al rfl ?_;show AV.d (D.bool false)=_;(try simp only[aA]at *);rw[hI (by rw[hG];simp only[pT, *, if_true,if_false,aY])];done)
   |(refine⟨k+1,⟨by omega,?_⟩,by(show z.aj.length-(k+1)<z.aj.length-k;omega),aK.keep ⟨ae,ae,ae,⟨ax (by omega),rfl⟩,trivial⟩ ⟨ae,trivial⟩⟩;rw[dW,hB,hG];((try simp only[aA]at *);simp only[pT, *, if_true,if_false,aY];done))
   |(refine⟨_,_,Ns s.sigs z.af,?_⟩;conv=>whnf)
   |(refine ak (λh=>?_) (λh=>?_) <;> (rw[h];conv=>whnf))
   |fail)
 . (refine al rfl ?_;obtain rfl:k=z.aj.length:=(by simp at h1;omega);show AV.d (D.bool true)=_;rw[hE,hB])
def jT(af:Bs)(s:Signed):Bool:=(s.set.type==2)&& !(s.set.name==af)
def kR(af:Bs):List Signed->List (Bs×D)->List (Bs×D)
 |[],m=>m
 |s::t,m=>kR af t (if jT af s=true then cM s.set.name (.bool true) m else m)
def gp(af:Bs)(l:List Signed)(n:Bs):Bool:=l.any λs=>jT af s&&(s.set.name==n)
theorem qg(k n:Bs)(v:D):∀m,bG n (cM k v m)=if n=k then some v else bG n m
 |[]=>by simp only[cM,bG]
 |(k',v')::t=>by
  simp only[cM];by_cases h:k=k'
  .subst h;simp only[if_true,bG];by_cases h2:n=k <;> simp only[h2,if_true,if_false]
  .simp only[h,if_false,bG,qg k n v t];by_cases h2:n=k'
   .subst h2;have h3:¬n=k:=λe=>h e.symm
    simp only[if_true,h3,if_false]
   .simp only[h2,if_false]
theorem ya(af n:Bs):∀(l:List Signed) (m:List (Bs×D)),bG n (kR af l m)=if gp af l n=true then some (.bool true)else bG n m
 |[],m=>by simp[kR,gp]
 |s::t,m=>by
  rw[kR,ya af n t];by_cases h:jT af s=true
  .rw[if_pos h,qg];by_cases hn:n=s.set.name
   .subst hn;simp[gp,h]
   .have kC :(s.set.name==n)=false:=by simpa using λe=>hn e.symm
    simp only[hn,if_false,gp,List.any_cons,h,kC,mf,ka]
  .have h' :jT af s=false:=by simpa using h
   simp only[gp,List.any_cons,h',xc,ka,fR,if_false]
def lj(cut:Bs->Bool)(c n:Bs):Bs :=
 let c' :=if (!(c==[])&& !(bJ n c).1)=true then[]else c
 if ((c' ==[])&&cut n)=true then n else c'
def bh(cut:Bs->Bool):Bs->List Signed->List Bs
 |_,[]=>[]
 |c,s::t=>lj cut c s.set.name::bh cut (lj cut c s.set.name) t
def dM(z:aL):List Bs:=bh (gp z.af z.aj) [] z.aj
theorem vo(cut:Bs->Bool):∀(c:Bs) (l:List Signed),(bh cut c l).length=l.length
 |_,[]=>rfl
 |c,s::t=>by simp[bh,vo cut _ t]
theorem Tv(done:List Bs)(n:Nat)(c:Bs):(done++List.replicate (n+1) []).set done.length c=(done++[c])++List.replicate n []:=by
 rw[List.replicate_succ,List.set_append];simp
theorem yb(af:Bs)(s:Signed):∀(l:List Signed) (m:List (Bs×D)),kR af (l++[s]) m=if jT af s=true then cM s.set.name (.bool true) (kR af l m)else kR af l m
 |[],m=>rfl
 |x::t,m=>by rw[List.cons_append,kR,kR,yb af s t]
theorem bP{α:Type}{l:List α}{k:Nat}{x:α}(h:l[k]? =some x):l.take (k+1)=l.take k++[x]:=by
 rw[List.take_add_one,h];rfl
theorem NV{b:Bool}(h:(!b)=false)(h' :b=false):False:=by subst h';cases h
theorem NG(z:aL)(hn:z.aj.length<=100000):NQ.Fn cx 86 [.agg (aX z)] (.agg ((sA z (dM z)).map .d)) []:=by
 refine aU bp mixed Tryz.func86 ?_;conv=>whnf
 refine ⟨Nat, fun k => ⟨[(1, .ptr 1 0), (2, .ptr 2 0), (3, .omap 13), (16, .d (.slice 5 (z.aj.map aw))), (17, .d (.int .i64 ((z.aj.map aw).length : Int))), (18, .d (.int .i64 k))],
     [(1,.box ((aX z).map .d)),(2,.box [.d (.str []),.nil 5,.nil 1]),(13,.smap (kR z.af (z.aj.take k) []))]⟩,
  λk=>k<=z.aj.length,λk=>z.aj.length-k,⟨0,by omega,aK.keep ⟨ae,ae,ae,ae,ae,ae,trivial⟩ ⟨ae,ae,ae,trivial⟩⟩,λk hk=>?_⟩
 conv=>whnf
 refine ak (λh1=>?_) (λh1=>?_) <;> (rw[h1];conv=>whnf)
 .have hC:k<z.aj.length:=by simp at h1;omega
  obtain⟨s,hs⟩:∃s,z.aj[k]? =some s:=⟨_,au hC⟩
  refine⟨aD k,aw s,aN hs,?_⟩;conv=>whnf
  have hm:=yb z.af s (z.aj.take k) [];rw[<- bP hs]at hm
  repeat' (first
   |(refine bV ?_;conv=>whnf)
   |(refine⟨k+1,hC,by(show z.aj.length-(k+1)<z.aj.length-k;omega),aK.keep ⟨ae,ae,ae,ae,ae,⟨ax (by omega),rfl⟩,trivial⟩ ⟨ae,ae,⟨?_,rfl⟩,trivial⟩⟩;show some (Blk.smap _)=some (Blk.smap _);rw[hm];simp only[jT, *, if_true,if_false,aY];done)
   |(refine ak (λh=>?_) (λh=>?_) <;> (rw[h];conv=>whnf))
   |fail)
 .obtain rfl:k=z.aj.length:=by simp at h1;omega
  (refine bV ?_;conv=>whnf)
  refine⟨by omega,.inl rfl,by omega,by(simp only[aA];omega),by(simp only[aA];omega),?_⟩;conv=>whnf
  refine ⟨Nat × Bs × List Bs, fun x => ⟨[(1, .ptr 1 0), (2, .ptr 2 0), (3, .omap 13), (6, .ptr 6 0), (7, .d (.str x.2.1)), (49, .d (.slice 5 (z.aj.map aw))), (50, .d (.int .i64 ((z.aj.map aw).length : Int))), (51, .d (.int .i64 x.1))],
      [(1,.box ((aX z).map .d)),(2,.box [.d (.str []),.nil 5,.nil 1]),(13,.smap (kR z.af z.aj [])),(45,.row 9 1 ((x.2.2++List.replicate (z.aj.length-x.1) []).map ck) true),(6,.box [.d (.str z.af),.d (.slice 5 (z.aj.map aw)),.own 45])]⟩,
   λx=>x.1<=z.aj.length/\x.2.2.length=x.1/\x.2.2++bh (gp z.af z.aj) x.2.1 (z.aj.drop x.1)=dM z,λx=>z.aj.length-x.1,
   ⟨(0,[],[]),⟨by simp,rfl,rfl⟩,aK.keep ⟨ae,ae,ae,ae,ae,ae,ae,ae,trivial⟩ ⟨ae,ae,⟨by(show some (Blk.smap (kR z.af (z.aj.take z.aj.length) []))=_;rw[List.take_length]),rfl⟩,⟨by(show some (Blk.row _ _ (List.replicate ((z.aj.map aw).length:Int).toNat _) true)=some (Blk.row _ _ _ true);simp[ck];done),rfl⟩,ae,trivial⟩⟩,?_⟩
  rintro⟨k,c,done⟩ ⟨hk,hd,hB⟩;simp only at hk hd hB;conv=>whnf
  refine ak (λh1=>?_) (λh1=>?_) <;> (rw[h1];conv=>whnf)
  .have hC:k<z.aj.length:=by simp at h1;omega
   obtain⟨s,hs⟩:∃s,z.aj[k]? =some s:=⟨_,au hC⟩
   refine⟨aD k,aw s,aN hs,?_⟩;conv=>whnf
   have hV:z.aj.drop k=s::z.aj.drop (k+1):=by
    obtain⟨hl,he⟩:=aB.mp hs;rw[List.drop_eq_getElem_cons hC,he]
   have kk:k<((done++List.replicate (z.aj.length-k) []).map ck).length:=by simp;omega
   have hD:List.replicate (z.aj.length-k) ([]:Bs)=List.replicate ((z.aj.length-(k+1))+1) []:=by congr 1;omega
   have hL:∀c',((done++List.replicate (z.aj.length-k) []).map ck).set k (ck c')=((done++[c'])++List.replicate (z.aj.length-(k+1)) []).map ck:=λc' =>by
    rw[hD, <- Tv done _ c',List.map_set,hd]
   rw[hV,bh]at hB;have kf:∀c',lj (gp z.af z.aj) c s.set.name=c' ->(done++[c'])++bh (gp z.af z.aj) c' (z.aj.drop (k+1))=dM z:=λc' e=>by
    rw[<- hB,e,List.append_assoc];rfl
   have hf:=ya z.af s.set.name z.aj [];clear hB hk;obtain⟨q,hq⟩:∃q,gp z.af z.aj s.set.name=q:=⟨_,rfl⟩
   rw[hq]at hf;have e0:(⟨#[]⟩:ByteArray).data.toList=[]:=rfl;have kD:((done++List.replicate (z.aj.length-k) []).map ck)[k]? =some (ck []):=by
    rw[bc,cL (by omega),List.getElem?_replicate,if_pos (by omega)];rfl
   repeat' (first
    |(refine⟨_,_,oe _ _,?_⟩;conv=>whnf)
    |(refine bV ?_;conv=>whnf)
    |(refine ak (λh=>?_) (λh=>?_) <;> (rw[h];conv=>whnf))
    |(rcases q with _|_ <;> ((try simp only[fR,if_false,if_true,bG]at hf);rw[hf];conv=>whnf))
    |exact(NV (b:=c==[]) (by assumption) (by assumption)).elim
    |(refine⟨aD k,kk,?_⟩;conv=>whnf)
    |(refine⟨_,kD,?_⟩;conv=>whnf)
    |(refine⟨(k+1,c,done++[c]),⟨hC,by simp[hd],kf _ (by(try simp only[e0]at *);simp only[lj, *, if_true,if_false,aY,beq_self_eq_true];done)⟩,by(show z.aj.length-(k+1)<z.aj.length-k;omega),aK.keep ⟨ae,ae,ae,ae,ae,ae,ae,⟨ax (by omega),rfl⟩,trivial⟩ ⟨ae,ae,ae,⟨by(show some (Blk.row _ _ (List.set _ k (ck (c))) true)=some (Blk.row _ _ _ true);rw[hL]),rfl⟩,ae,trivial⟩⟩;done)
    |(refine⟨(k+1,[],done++[[]]),⟨hC,by simp[hd],kf _ (by(try simp only[e0]at *);simp only[lj, *, if_true,if_false,aY,beq_self_eq_true];done)⟩,by(show z.aj.length-(k+1)<z.aj.length-k;omega),aK.keep ⟨ae,ae,ae,ae,ae,ae,ae,⟨ax (by omega),rfl⟩,trivial⟩ ⟨ae,ae,ae,⟨by(show some (Blk.row _ _ (List.set _ k (ck ([]))) true)=some (Blk.row _ _ _ true);rw[hL]),rfl⟩,ae,trivial⟩⟩;done)
    |(refine⟨(k+1,s.set.name,done++[s.set.name]),⟨hC,by simp[hd],kf _ (by(try simp only[e0]at *);simp only[lj, *, if_true,if_false,aY,beq_self_eq_true];done)⟩,by(show z.aj.length-(k+1)<z.aj.length-k;omega),aK.keep ⟨ae,ae,ae,ae,ae,ae,ae,⟨ax (by omega),rfl⟩,trivial⟩ ⟨ae,ae,ae,⟨by(show some (Blk.row _ _ (List.set _ k (ck (s.set.name))) true)=some (Blk.row _ _ _ true);rw[hL]),rfl⟩,ae,trivial⟩⟩;done)
    |fail)
  .refine al rfl ?_;obtain rfl:k=z.aj.length:=by simp at h1;omega
   simp only[List.drop_length,bh,List.append_nil]at hB;show AV.agg [_,_,AV.d (.slice 1 ((done++List.replicate (z.aj.length-z.aj.length) []).map ck))]=_
   rw[Nat.sub_self,List.replicate_zero,List.append_nil,hB];rfl
theorem tV:jD dB where
 range:=λa b=>by unfold dB;(repeat' split) <;> omega
 zero:=λa b=>by unfold dB;(repeat' split) <;> omega
 lK:=λa b=>by unfold dB;(repeat' split) <;> omega
 lt:=λa b c=>by unfold dB;(repeat' split) <;> omega
theorem cT:jD bX where
 range:=λa b=>ot.range _ _
 zero:=λa b=>⟨λh=>yK ((ot.zero _ _).1 h),λh=>by subst h;exact(ot.zero _ _).2 rfl⟩
 lK:=λa b=>ot.lK _ _
 lt:=λa b c=>ot.lt _ _ _
def lex{α β:Type}(c:α->α->Int)(e:β->β->Int)(p q:α×β):Int:=if c p.1 q.1=0 then e p.2 q.2 else c p.1 q.1
theorem BY{α β:Type}{c:α->α->Int}{e:β->β->Int}(hc:jD c)(he:jD e):jD (lex c e) where
 range:=λa b=>by unfold lex;split;exact he.range _ _;exact hc.range _ _
 zero:=λa b=>by
  unfold lex;split
  .rename_i h;rw[he.zero,Prod.ext_iff];exact⟨λk=>⟨(hc.zero _ _).1 h,k⟩,λk=>k.2⟩
  .rename_i h;exact⟨λk=>absurd k h,λk=>absurd ((hc.zero _ _).2 (by rw[k])) h⟩
 lK:=λa b=>by
  unfold lex;rw[hc.lK a.1 b.1];by_cases h:c a.1 b.1=0
  .rw[if_pos h,if_pos (by omega),he.lK]
  .rw[if_neg h,if_neg (by omega)]
 lt:=λa b d=>by
  unfold lex;intro h1 h2;by_cases k1:c a.1 b.1=0
  .have e1:=(hc.zero _ _).1 k1;rw[if_pos k1]at h1;rw[e1];by_cases k2:c b.1 d.1=0
   .rw[if_pos k2]at h2 ⊢;exact he.lt _ _ _ h1 h2
   .rw[if_neg k2]at h2 ⊢;exact h2
  .rw[if_neg k1]at h1;by_cases k2:c b.1 d.1=0
   .have e2:=(hc.zero _ _).1 k2;rw[<- e2,if_neg k1];exact h1
   .rw[if_neg k2]at h2;have h3:=hc.lt _ _ _ h1 h2;rw[if_neg (by omega)];exact h3
abbrev cpl:Bs×Int->Bs×Int->Int:=lex bX dB
theorem la:jD cpl:=BY cT tV
theorem tW{a b:Bs}(s t:Int)(ha:bk a=true)(hb:bk b=true):rB a s b t=cpl (a,s) (b,t):=by
 unfold rB cpl lex fh;simp only[ha,hb,and_self,if_true,cT.zero]
def Signed.place(s:Signed):Bs×Int:=(s.set.name,s.set.type)
def ed.place(q:ed):Bs×Int:=(q.name,q.type)
def ie:List Signed->Prop
 |[]=>True
 |[_]=>True
 |a::b::t=>cpl a.place b.place<0/\ie (b::t)
theorem UY{a b c:Bs×Int}(h1:0<=cpl a c)(h2:cpl a b<0):0<=cpl b c:=by
 rcases la.range b c with h|h|h
 .rcases la.range a b with k|k|k
  .have:=la.lt a b c k h;omega
  .omega
  .omega
 .omega
 .omega
theorem CY{q:Bs×Int}:∀{l:List Signed} {x:Signed},ie (x::l)->0<=cpl x.place q-> ∀s∈l,0<=cpl s.place q
 |[],_,_,_,s,hs=>by cases hs
 |y::t,x,h,hx,s,hs=>by
  have hy:=UY hx h.1;rcases List.mem_cons.1 hs with rfl|hs
  .exact hy
  .exact CY h.2 hy s hs
theorem nB:∀{l:List Signed} {x:Signed},ie (x::l)-> ∀s∈l,cpl x.place s.place<0
 |[],_,_,s,hs=>by cases hs
 |y::t,x,h,s,hs=>by
  rcases List.mem_cons.1 hs with rfl|hs
  .exact h.1
  .have h1:=nB h.2 s hs;have h2:=h.1;rcases la.range x.place y.place with a|a|a <;> rcases la.range y.place s.place with b|b|b <;> first|omega|skip
   have:=la.lt _ _ _ a b;omega
theorem ie.tail{x:Signed}:∀{l:List Signed},ie (x::l)->ie l
 |[],_=>trivial
 |_::_,h=>h.2
def posOf(l:List Signed)(q:ed):Nat:=(l.takeWhile λs=>decide (cpl s.place q.place<0)).length
def is(q:ed)(s:Signed):Bool:=(s.set.name==q.name)&&(s.set.type==q.type)
def kx(l:List Signed)(q:ed):Bool:=l.any (is q)
theorem td(q:ed)(s:Signed):is q s=true ↔ s.place=q.place:=by
 simp[is,Signed.place,ed.place]
theorem Gn{s:Signed}{q:ed}(hs:bk s.set.name=true)(hq:bk q.name=true):plc s q=cpl s.place q.place:=tW _ _ hs hq
theorem zp(q:ed)(hq:bk q.name=true):∀(l:List Signed),ie l->(∀s∈l,bk s.set.name=true)->Split l q (posOf l q)/\foundAt l q (posOf l q)=kx l q
 |[],_,_=>⟨⟨Nat.le_refl _,λi s h=>(by cases h),λi s h=>(by cases h)⟩,rfl⟩
 |x::l,h,hv=>by
  have hx:=Gn (hv x (List.mem_cons_self ..)) hq;by_cases hC:cpl x.place q.place<0
  .have hp:posOf (x::l) q=posOf l q+1:=by simp[posOf,List.takeWhile_cons,hC]
   obtain⟨⟨h1,h2,h3⟩,h4⟩:=zp q hq l h.tail λs hs=>hv s (bC _ hs)
   rw[hp];refine⟨⟨by simp;exact h1,?_,?_⟩,?_⟩
   .intro i s hs hi;cases i with
    |zero=>cases hs;omega
    |succ i=>exact h2 i s hs (by omega)
   .intro i s hs hi;cases i with
    |zero=>omega
    |succ i=>exact h3 i s hs (by omega)
   .have hJ:is q x=false:=by
     cases hi:is q x with
     |false=>rfl
     |true=>rw[(td q x).1 hi,(la.zero _ _).2 rfl]at hC;omega
    unfold foundAt at h4 ⊢;rw[List.getElem?_cons_succ,h4];simp[kx,hJ]
  .have hp:posOf (x::l) q=0:=by simp[posOf,List.takeWhile_cons,hC]
   have hW:0<=cpl x.place q.place:=by omega
   rw[hp];refine⟨⟨by omega,λi s _ hi=>by omega,?_⟩,?_⟩
   .intro i s hs _;have hm:=aC hs;rw[Gn (hv s hm) hq];rcases List.mem_cons.1 hm with rfl|hm
    .exact hW
    .exact CY h hW s hm
   .show(plc x q==0)=_
    rw[hx];have hb:(cpl x.place q.place==0)=is q x:=by
     rw[Bool.eq_iff_iff,beq_iff_eq,la.zero,td]
    rw[hb];cases hi:is q x with
    |true=>simp[kx,hi]
    |false =>
     have:kx l q=false:=by
      simp only[kx,List.any_eq_false];intro s hs kE;have h1:=nB h s hs;rw[(td q s).1 kE]at h1;omega
     simp only[kx,List.any_cons,hi,ka]at this ⊢;exact this.symm
structure Ordered(z:aL):Prop where
 af:bk z.af=true
 Rv:kQ z.af=false
 few:z.aj.length<=20000
 set:∀s∈z.aj,dX s.set=true
 under:∀s∈z.aj,(bJ s.set.name z.af).1=true
 rising:ie z.aj
theorem my{s:cG}(h:dX s=true):bk s.name=true:=by
 unfold dX at h;simp only[aT,Bool.not_eq_true',Bool.or_eq_false_iff,Bool.not_eq_false']at h;exact h.1.1.1.1.1
theorem CZ:∀(l:List Signed),(∀s∈l,bk s.set.name=true)->(∀i p s,l[i]? =some p->l[i+1]? =some s->rB p.set.name p.set.type s.set.name s.set.type<0)->ie l
 |[],_,_=>trivial
 |[_],_,_=>trivial
 | a :: b :: t, hv, h => ⟨by
     have:=h 0 a b rfl rfl
     rwa [tW _ _ (hv a (by simp)) (hv b (by simp))]at this,CZ (b::t) (λs hs=>hv s (bC _ hs)) λi p s hp hs=>h (i+1) p s hp hs⟩
theorem Ordered.of{z:aL}(h:ordered z=true):Ordered z:=by
 unfold ordered at h;simp only[aT,Bool.not_eq_true',Bool.or_eq_false_iff,Bool.not_eq_false',decide_eq_false_iff_not,aH,List.mem_range]at h;obtain⟨⟨⟨h1,h2⟩,h3⟩,h4⟩:=h;have hG:∀(i:Nat) s p,z.aj[i]? =some s->z.aj[i-1]? =some p->mN z.af i s p=false:=by
  intro i s p hs hp;have:=h4 i (aB.1 hs).1;rw[qS hs hp]at this;simpa using this
 have hL:∀s∈z.aj,dX s.set=true/\(bJ s.set.name z.af).1=true:=by
  intro s hs;obtain⟨i,hi⟩:=cN hs;obtain⟨hl,_⟩:=aB.1 hi;obtain⟨p,hp⟩:∃p,z.aj[i-1]? =some p:=⟨_,au (by omega)⟩
  have:=hG i s p hi hp;unfold mN at this;simp only[Bool.or_eq_false_iff,Bool.not_eq_false']at this;exact⟨this.1.1,this.1.2⟩
 refine⟨h1,h2,by omega,λs hs=>(hL s hs).1,λs hs=>(hL s hs).2,CZ _ (λs hs=>my (hL s hs).1) ?_⟩;intro i p s hp hs;have:=hG (i+1) s p hs hp;unfold mN at this;simp only[Bool.or_eq_false_iff,Bool.not_eq_false',Bool.and_eq_false_iff,decide_eq_false_iff_not,beq_iff_eq]at this;rcases this.2 with k|k
 .omega
 .omega
theorem Ordered.name{z:aL}(h:Ordered z):∀s∈z.aj,bk s.set.name=true:=λs hs=>my (h.set s hs)
def bf(z:aL):Bool:=ordered z&&pM (λt=>kx z.aj ⟨z.af,t⟩) z&&(aliases z&&ub z (dM z)&&uM z (dM z)&&ui z)
def Gq(q:ed):Bool:=bk q.name&&decide (q.type>=1)&&decide (q.type<=8)
theorem Ji{z:aL}(h:Ordered z)(q:ed)(hq:bk q.name=true) :
 NQ.Fn cx 144 [.agg (aX z),.agg (pn q)] (.tuple [.d (.int .i64 (posOf z.aj q)),.d (.bool (kx z.aj q))]) []:=by
 obtain⟨h1,h2⟩:=zp q hq z.aj h.rising h.name;have:=SF z q (posOf z.aj q) (by have:=h.few;omega) h1
 rwa [h2]at this
theorem jB(z:aL):NQ.Fn cx 40 [.agg (aX z)] (.d (.bool (bf z))) []:=by
 refine aU bp mixed Tryz.func40 ?_;conv=>whnf
 (refine⟨_,_,Lm z,?_⟩;conv=>whnf)
 (refine ak (λh=>?_) (λh=>?_) <;> (rw[h];conv=>whnf))
 . (refine al rfl ?_;show AV.d (D.bool false)=_;(try simp only[Bool.not_eq_true',Bool.not_eq_false',aA]at *);simp only[bf, *, if_true,if_false,aY];done)
 have ho:Ordered z:=Ordered.of (by simpa using h);have hn:z.aj.length<=100000:=by have:=ho.few;omega
 have hb:(dM z).length=z.aj.length:=vo _ _ _
 (refine⟨_,_,Ev z hn _ _ (λt=>Ji ho ⟨z.af,t⟩ ho.af),?_⟩;conv=>whnf)
 (refine ak (λh=>?_) (λh=>?_) <;> (rw[h];conv=>whnf))
 . (refine al rfl ?_;show AV.d (D.bool false)=_;(try simp only[Bool.not_eq_true',Bool.not_eq_false',aA]at *);simp only[bf, *, if_true,if_false,aY];done)
 (refine⟨_,_,NG z hn,?_⟩;conv=>whnf)
 have hv:bf z=(aliases z&&ub z (dM z)&&uM z (dM z)&&ui z):=by
  simp only[Bool.not_eq_false']at *;simp only[bf, *, if_true,if_false,aY]
 (refine⟨_,_,BD z _ hn,?_⟩;conv=>whnf)
 repeat' (first|(refine⟨_,_,Hr z _ hn hb,?_⟩;conv=>whnf)|(refine⟨_,_,Iw z _ hn hb,?_⟩;conv=>whnf)|(refine⟨_,_,Fu z _ hn,?_⟩;conv=>whnf)|(refine bV ?_;conv=>whnf)|(refine ak (λh=>?_) (λh=>?_) <;> (rw[h];conv=>whnf))|fail)
 all_goals first
  |(refine al rfl ?_;show AV.d (D.bool false)=_;rw[hv];simp only[*, if_true,if_false,aY];done)
  |(refine al rfl ?_;show AV.d (D.bool (ui z))=_;rw[hv];simp only[*, if_true,if_false,aY];done)
  |fail
theorem sy{s:Bs}(h:bk s=true):cF (dx s)=(cF s).tail:=ym (AG (List.tail_suffix _) (se h))
theorem qT{s:Bs}(h:bk s=true):bk (dx s)=true:=GR (List.tail_suffix _) h
theorem GO{n z:Bs}(hn:bk n=true)(h:bE n z=true)(hJ:n≠z):n≠[46]/\bE (dx n) z=true/\(cF (dx n)).length+1=(cF n).length:=by
 unfold bE at h ⊢;rw[sy hn];have hs:=List.isSuffixOf_iff_suffix.1 h;cases hl:cF n with
 |nil =>
  rw[hl]at hs;have:cF z=[]:=List.suffix_nil.1 hs;exact absurd (zg (by rw[hl,this])) hJ
 |cons x t =>
  rw[hl]at hs;refine⟨λe=>by rw[e]at hl;simp[cF]at hl,?_,by simp⟩;rcases List.suffix_cons_iff.1 hs with k|k
  .exact absurd (zg (by rw[hl,k])) hJ
  .exact List.isSuffixOf_iff_suffix.2 k
theorem PU{l:List Signed}{q:ed}{c:Nat}(h:foundAt l q c=true):∃s,l[c]? =some s/\plc s q=0:=by
 unfold foundAt at h;split at h
 .rename_i s hs;exact⟨s,hs,by simpa using h⟩
 .cases h
theorem PV{z:aL}(ho:Ordered z){q:ed}(hq:bk q.name=true)(h:kx z.aj q=true):∃s,z.aj[posOf z.aj q]? =some s/\s∈z.aj/\s.place=q.place:=by
 obtain⟨_,h2⟩:=zp q hq z.aj ho.rising ho.name;rw[h]at h2;obtain⟨s,hs,hp⟩:=PU h2;have hm:=aC hs;exact⟨s,hs,hm,(la.zero _ _).1 (by rw[<- Gn (ho.name s hm) hq];exact hp)⟩
theorem bO{z:aL}(h:bf z=true):Ordered z:=by
 unfold bf at h;simp only[aT]at h;exact Ordered.of h.1.1
theorem wF{s:cG}(h:dX s=true):∃d,s.data[0]? =some d:=by
 unfold dX at h;simp only[aT,Bool.not_eq_true',Bool.or_eq_false_iff,Bool.not_eq_false']at h;have h1:=h.1.1.2;unfold within at h1;simp at h1;exact⟨_,au (by omega)⟩
def fP(z:aL):Int:=match z.aj[posOf z.aj ⟨z.af,4⟩]? with|some s=>(match s.set.data[0]? with|some d=>d.n|none=>0)|none=>0
def tF(z:aL):Int×Int:=if (!bf z)=true then(0,1)else(fP z,0)
def Ac(z:aL):Nat->Bs->Option Bs
 |0,_=>none
 |f+1,n=>if n=z.af then none else if kx z.aj ⟨n,2⟩=true then some n else Ac z f (dx n)
def PD(z:aL)(s:Bs):Option Bs:=Ac z ((cF s).length+1) s
def pA(z:aL)(s:Bs):Bs×Bool×Int :=
 if (!bk s|| !bf z)=true then([],false,1)else if (!(bJ s z.af).1)=true then([],false,20)
 else match PD z s with|some c=>(c,true,0)|none=>([],false,0)
theorem TT(z:aL)(s:Bs):NQ.Fn cx 140 [.agg (aX z),.str s] (.tuple [.d (.str (pA z s).1),.d (.bool (pA z s).2.1),.d (.int .i64 (pA z s).2.2)]) []:=by
 refine aU bp mixed Tryz.func140 ?_;conv=>whnf
 (refine⟨_,_,mW s,?_⟩;conv=>whnf)
 (refine ak (λh=>?_) (λh=>?_) <;> (rw[h];conv=>whnf))
 .refine al rfl ?_;rw[pA,h];rfl
 (refine⟨_,_,jB z,?_⟩;conv=>whnf)
 (refine ak (λh=>?_) (λh=>?_) <;> (rw[h];conv=>whnf))
 .refine al rfl ?_;rw[pA,if_pos (by simp only[*, if_true,if_false,aY])];rfl
 have hZ:bk s=true:=by simp only[Bool.not_eq_false']at *; assumption
 have hv:bf z=true:=by simp only[Bool.not_eq_false']at *; assumption
 have ho:=bO hv;have h0:¬(!bk s|| !bf z)=true:=by simp[hZ,hv]
 (refine⟨_,_,oe s z.af,?_⟩;conv=>whnf)
 (refine ak (λh=>?_) (λh=>?_) <;> (rw[h];conv=>whnf))
 .refine al rfl ?_;rw[pA,if_neg h0,if_pos (by assumption)];rfl
 have hu:bJ s z.af=(true,0):=by
  have h3:(bJ s z.af).1=true:=by simp only[Bool.not_eq_false']at *; assumption
  unfold bJ at h3 ⊢;rw[if_pos ⟨hZ,ho.af⟩]at h3 ⊢;rw[show bE s z.af=true from h3]
 have hR:pA z s=(match PD z s with|some c=>(c,true,0)|none=>([],false,0)):=by
  rw[pA,if_neg h0,hu];rfl
 have hP:bE s z.af=true:=by
  unfold bJ at hu;rw[if_pos ⟨hZ,ho.af⟩]at hu;exact(Prod.mk.inj hu).1
 refine⟨Bs,λn=>⟨[(2,.ptr 2 0),(9,.ptr 9 0),(10,.d (.str n))],[(2,.box ((aX z).map .d)),(9,.box ((aX z).map .d))]⟩,
  λn=>bk n=true/\bE n z.af=true/\Ac z ((cF n).length+1) n=PD z s,λn=>(cF n).length,
  ⟨s,⟨hZ,hP,rfl⟩,aK.keep ⟨ae,ae,ae,trivial⟩ ⟨ae,ae,trivial⟩⟩,λn ⟨hY,hn,hc⟩=>?_⟩
 conv=>whnf
 refine ak (λh1=>?_) (λh1=>?_) <;> (rw[h1];conv=>whnf)
 .have hJ:n≠z.af:=by simpa using h1
  obtain⟨k1,k2,k3⟩:=GO hY hn hJ;rw[Ac,if_neg hJ]at hc
  (refine⟨_,_,Ji ho ⟨n,2⟩ hY,?_⟩;conv=>whnf)
  refine ak (λh2=>?_) (λh2=>?_) <;> (rw[h2];conv=>whnf)
  .refine al rfl ?_;rw[if_pos h2]at hc;rw[hR, <- hc];rfl
  .rw[if_neg (by rw[h2];exact Bool.false_ne_true), <- k3]at hc;have hp:jd n=(dx n,0):=by unfold jd;rw[if_pos hY,if_neg k1]
   have kq:=Mn n;rw[hp]at kq
   (refine⟨_,_,kq,?_⟩;conv=>whnf)
   exact⟨dx n,⟨qT hY,k2,hc⟩,by(show(cF (dx n)).length<(cF n).length;omega),aK.keep ⟨ae,ae,ae,trivial⟩ ⟨ae,ae,trivial⟩⟩
 .have hJ:n=z.af:=by simpa using h1
  rw[Ac,if_pos hJ]at hc;refine al rfl ?_;rw[hR, <- hc];rfl
def nR(l:List Bs):Bs:=(l[l.length-1]?).getD []
def AB(n b:Bs):Bool:= !(b==[])&& !(b==n)
def AD(acc:List Bs)(n:Bs):Bool:=((acc.length:Int)==0)|| !(nR acc==n)
def nam:List Bs->List (Signed×Bs)->List Bs
 |acc,[]=>acc
 |acc,(s,b)::t=>nam (if AB s.set.name b=true then acc else if AD acc s.set.name=true then acc++[s.set.name]else acc) t
def tx(z:aL):List Bs:=nam [] (z.aj.zip (dM z))
def kS(z:aL):List Bs×Int:=if (!bf z)=true then([],1)else(tx z,0)
theorem BX{acc:List Bs}(h:(((acc.map ck).length:Int)==0)=false):acc.length≠0:=by simp at h;simpa using h
theorem Qw{acc:List Bs}(h:(((acc.map ck).length:Int)==0)=false):(acc.map ck)[((acc.length-1:Nat):Int).toNat]? =some (ck (nR acc)):=by
 have h' :=BX h;rw[Int.toNat_natCast,bc,nR,au (by omega)];rfl
theorem ND{acc:List Bs}(hl:acc.length<=100000)(h:(((acc.map ck).length:Int)==0)=false):IntKind.i64.wrap (((acc.map ck).length:Int)-1)=((acc.length-1:Nat):Int):=by
 have h' :=BX h;rw[aA,wrap_i64 (by omega) (by omega)];omega
theorem SS{acc:List Bs}(h:(((acc.map ck).length:Int)==0)=false):((acc.length-1:Nat):Int).toNat<(acc.map ck).length:=by
 have h' :=BX h;simp;omega
theorem QJ(z:aL):NQ.Fn cx 228 [.agg (aX z)] (.tuple [.d (.slice 1 ((kS z).1.map ck)),.d (.int .i64 (kS z).2)]) []:=by
 refine aU bp mixed Tryz.func228 ?_;conv=>whnf
 (refine⟨_,_,jB z,?_⟩;conv=>whnf)
 (refine ak (λh=>?_) (λh=>?_) <;> (rw[h];conv=>whnf))
 .refine al rfl ?_;rw[kS,if_pos h];rfl
 have hv:bf z=true:=by simpa using h
 have ho:=bO hv;have hn:z.aj.length<=100000:=by have:=ho.few;omega
 have hb:(dM z).length=z.aj.length:=vo _ _ _;have hR:kS z=(tx z,0):=by rw[kS,if_neg (by simp[hv])]
 (refine⟨_,_,NG z hn,?_⟩;conv=>whnf)
 refine ⟨Nat × List Bs, fun x => ⟨[(1, .ptr 1 0), (4, .ptr 4 0), (5, .own 100), (18, .d (.slice 5 (z.aj.map aw))), (19, .d (.int .i64 ((z.aj.map aw).length : Int))), (20, .d (.int .i64 x.1))],
     [(1,.box ((aX z).map .d)),(4,.box ((sA z (dM z)).map .d)),(100,.row 9 1 (x.2.map ck))]⟩,
  λx=>x.1<=z.aj.length/\x.2.length<=x.1/\nam x.2 ((z.aj.zip (dM z)).drop x.1)=tx z,λx=>z.aj.length-x.1,
  ⟨(0,[]),⟨by simp,by simp,rfl⟩,(aK.jV 5 100 1 9 1 rfl rfl (by decide)).trans (aK.keep ⟨ae,ae,ae,ae,ae,ae,trivial⟩ ⟨ae,ae,ae,trivial⟩)⟩,?_⟩
 rintro⟨k,acc⟩ ⟨hk,hl,hc⟩;simp only at hk hl hc;conv=>whnf
 refine ak (λh1=>?_) (λh1=>?_) <;> (rw[h1];conv=>whnf)
 .have hC:k<z.aj.length:=by simp at h1;omega
  obtain⟨s,hs⟩:∃s,z.aj[k]? =some s:=⟨_,au hC⟩
  obtain⟨b,kl⟩:∃b,(dM z)[k]? =some b:=⟨_,au (by omega)⟩
  have hV:(z.aj.zip (dM z)).drop k=(s,b)::(z.aj.zip (dM z)).drop (k+1):=by
   rw[List.drop_eq_getElem_cons (by simp;omega)]
   congr 1
   rw[List.getElem_zip];obtain⟨_,e1⟩:=aB.1 hs;obtain⟨_,e2⟩:=aB.1 kl;rw[e1,e2]
  rw[hV,nam]at hc;refine⟨aD k,aw s,aN hs,?_⟩;conv=>whnf
  have e0:(⟨#[]⟩:ByteArray).data.toList=[]:=rfl;clear hV hb
  repeat' (first
   |(refine bV ?_;conv=>whnf)
   |(refine⟨(k+1,acc),⟨hC,by(simp;omega),(by(try simp only[e0,aA]at *);simp only[AB,AD, *, if_true,if_false,aY]at hc;exact hc)⟩,by(show z.aj.length-(k+1)<z.aj.length-k;omega),aK.keep ⟨ae,ae,ae,ae,ae,⟨ax (by omega),rfl⟩,trivial⟩ ⟨ae,ae,⟨by first|rfl|(show some (Blk.row _ _ (_++_))=some (Blk.row _ _ _);rw[List.map_append];rfl),rfl⟩,trivial⟩⟩;done)
   |(refine⟨(k+1,acc++[s.set.name]),⟨hC,by(simp;omega),(by(try simp only[e0,aA]at *);simp only[AB,AD, *, if_true,if_false,aY]at hc;exact hc)⟩,by(show z.aj.length-(k+1)<z.aj.length-k;omega),aK.keep ⟨ae,ae,ae,ae,ae,⟨ax (by omega),rfl⟩,trivial⟩ ⟨ae,ae,⟨by first|rfl|(show some (Blk.row _ _ (_++_))=some (Blk.row _ _ _);rw[List.map_append];rfl),rfl⟩,trivial⟩⟩;done)
   |(refine ak (λh=>?_) (λh=>?_) <;> (rw[h];conv=>whnf))
   |(refine⟨aD k,ck b,aN kl,?_⟩;conv=>whnf)
   |(rw[ND (acc:=acc) (by omega) (by assumption)];refine⟨aD _,SS (acc:=acc) (by assumption),?_⟩;conv=>whnf)
   |(refine⟨_,Qw (acc:=acc) (by assumption),?_⟩;conv=>whnf)
   |(refine⟨by(show(acc.map ck).length+1<=_;rw[aA];omega),by(show((acc.map ck).length+1)*16<=_;rw[aA];omega),?_⟩;conv=>whnf)
   |fail)
 .obtain rfl:k=z.aj.length:=by simp at h1;omega
  refine al rfl ?_;rw[List.drop_eq_nil_of_le (by simp;omega),nam]at hc;rw[hR, <- hc];rfl
def atI(l:List Signed)(q:ed):Int:=match l.findIdx? (is q)with|some k=>(k:Int)|none=> -1
def qL(l:List Signed)(q:ed)(i:Nat):Bool:=match l[i]? with|some x=> !is q x|none=>true
theorem Su{l:List Signed}{q:ed}{k:Nat}{s:Signed}(hk:l[k]? =some s)(hs:is q s=true)(hb:(List.range k).all (qL l q)=true):atI l q=k:=by
 obtain⟨hl,e⟩:=aB.1 hk;have:l.findIdx? (is q)=some k:=List.findIdx?_eq_some_iff_getElem.2 ⟨hl,by rw[e];exact hs,λj hj=>by
  have:=aH.1 hb j (List.mem_range.2 hj);simp only[qL,au (show j<l.length by omega)]at this;simpa using this⟩
 rw[atI,this]
theorem Pl{l:List Signed}{q:ed}(hb:(List.range l.length).all (qL l q)=true):atI l q= -1:=by
 have:l.findIdx? (is q)=none:=List.findIdx?_eq_none_iff.2 λx hx=>by
  obtain⟨j,hj,rfl⟩:=List.getElem_of_mem hx;have:=aH.1 hb j (List.mem_range.2 hj);simp only[qL,au hj]at this;simpa using this
 rw[atI,this]
def uf(z:aL)(i:Nat):Bool:=match z.aj[i]? with|some s=> !(decide ((s.set.data.length:Int)>20)||decide ((s.sigs.length:Int)>20))|none=>false
def pC(z:aL):Bool:=decide ((z.aj.length:Int)<=100)&&(List.range z.aj.length).all (uf z)
def Lk(af:Bs)(i:Nat)(s p:Signed):Bool:= !dX s.set|| !bE s.set.name af||(decide ((i:Int)>0)&&decide (cpl (p.set.name,p.set.type) (s.set.name,s.set.type)>=0))
def Lj(z:aL)(i:Nat):Bool:=match z.aj[i]?, z.aj[i-1]? with|some s,some p=> !Lk z.af i s p|_,_=>false
def Gd(z:aL):Bool:= !((!bk z.af||kQ z.af)||decide ((z.aj.length:Int)>20000))&&(List.range z.aj.length).all (Lj z)
theorem Kf(z:aL)(q:ed)(hn:z.aj.length<=100000):NQ.Fn cx 19 [.agg (aX z),.agg (pn q)] (.d (.int .i64 (atI z.aj q))) []:=by
 refine aU bp mixed Tryz.func19 ?_;conv=>whnf
 refine⟨Nat,λk=>⟨[(2,.ptr 2 0),(3,.ptr 3 0),(5,.d (.int .i64 k))],[(2,.box ((aX z).map .d)),(3,.box ((pn q).map .d))]⟩,λk=>k<=z.aj.length/\(List.range k).all (qL z.aj q)=true,λk=>z.aj.length-k,⟨0,⟨by omega,rfl⟩,aK.keep ⟨ae,ae,ae,trivial⟩ ⟨ae,ae,trivial⟩⟩,λk ⟨hk,hB⟩=>?_⟩;(conv=>whnf);refine ak (λh1=>?_) (λh1=>?_) <;> (rw[h1];conv=>whnf)
 .have hC:k<z.aj.length:=by simp at h1;omega
  obtain⟨s,hs⟩:∃s,z.aj[k]? =some s:=⟨_,au hC⟩
  have hG:qL z.aj q k= !is q s:=by simp only[qL,hs]
  repeat' (first
   |(refine bV ?_;conv=>whnf)
   |(refine al rfl ?_;rw[Su hs (by simp only[is, *, if_true,if_false,aY]) hB];rfl)
   |(refine⟨k+1,⟨by omega,?_⟩,by(show z.aj.length-(k+1)<z.aj.length-k;omega),aK.keep ⟨ae,ae,⟨ax (by omega),rfl⟩,trivial⟩ ⟨ae,ae,trivial⟩⟩;rw[dW,hB,hG];((try simp only[aA]at *);simp only[is, *, if_true,if_false,aY];done))
   |(refine ak (λh=>?_) (λh=>?_) <;> (rw[h];conv=>whnf))
   |(refine⟨aD k,aw s,aN hs,?_⟩;conv=>whnf)
   |fail)
 .obtain rfl:k=z.aj.length:=(by simp at h1;omega)
  refine al rfl ?_;rw[Pl hB];rfl
theorem Ue(z:aL):NQ.Fn cx 78 [.agg (aX z)] (.d (.bool (pC z))) []:=by
 refine aU bp mixed Tryz.func78 ?_;conv=>whnf
 refine⟨Nat,λk=>⟨[(1,.ptr 1 0),(3,.d (.int .i64 k))],[(1,.box ((aX z).map .d))]⟩,λk=>k<=z.aj.length/\k<=101/\(List.range k).all (uf z)=true,λk=>101-k,
  ⟨0,⟨by omega,by omega,rfl⟩,aK.keep ⟨ae,ae,trivial⟩ ⟨ae,trivial⟩⟩,λk ⟨hk,kI,hB⟩=>?_⟩
 conv=>whnf
 refine ak (λh1=>?_) (λh1=>?_) <;> (rw[h1];conv=>whnf)
 .have hC:k<z.aj.length:=by simp at h1;omega
  refine ak (λh2=>?_) (λh2=>?_) <;> (rw[h2];conv=>whnf)
  .have kz :k<=100:=by simp at h2;omega
   obtain⟨s,hs⟩:∃s,z.aj[k]? =some s:=⟨_,au hC⟩
   have hG:uf z k= !(decide ((s.set.data.length:Int)>20)||decide ((s.sigs.length:Int)>20)):=by simp only[uf,hs]
   have hI:uf z k=false->pC z=false:=λhh=>by rw[pC,dK hC hh,mf]
   repeat' (first
    |(refine bV ?_;conv=>whnf)
    |(refine al rfl ?_;show AV.d (D.bool false)=_;(try simp only[aA]at *);rw[hI (by rw[hG];simp only[uf, *, if_true,if_false,aY])];done)
    |(refine⟨k+1,⟨by omega,by omega,?_⟩,by(show 101-(k+1)<101-k;omega),aK.keep ⟨ae,⟨ax (by omega),rfl⟩,trivial⟩ ⟨ae,trivial⟩⟩;rw[dW,hB,hG];((try simp only[aA]at *);simp only[uf, *, if_true,if_false,aY];done))
    |(refine ak (λh=>?_) (λh=>?_) <;> (rw[h];conv=>whnf))
    |(refine⟨aD k,aw s,aN hs,?_⟩;conv=>whnf)
    |fail)
  .refine al rfl ?_;show AV.d (D.bool (decide (((z.aj.map aw).length:Int)<=100)))=_
   have:decide ((z.aj.length:Int)<=100)=false:=by simp at h2 ⊢;omega
   rw[aA,pC,this];rfl
 .refine al rfl ?_;obtain rfl:k=z.aj.length:=(by simp at h1;omega)
  show AV.d (D.bool (decide (((z.aj.map aw).length:Int)<=100)))=_
  rw[aA,pC,hB,iH]
theorem JG(z:aL):Gd z=ordered z:=by
 unfold Gd ordered;by_cases hv:bk z.af=true
 .congr 1
  by_cases hB:∀s∈z.aj,dX s.set=true
  .rw[Bool.eq_iff_iff,aH,aH];have heq:∀i,i<z.aj.length->Lj z i=rR z i:=by
    intro i hi;obtain⟨s,hs⟩:∃s,z.aj[i]? =some s:=⟨_,au hi⟩
    obtain⟨p,hp⟩:∃p,z.aj[i-1]? =some p:=⟨_,au (by omega)⟩
    have vs:=my (hB s (aC hs));have vp:=my (hB p (aC hp));have hu:(bJ s.set.name z.af).1=bE s.set.name z.af:=by unfold bJ;rw[if_pos ⟨vs,hv⟩]
    rw[qS hs hp];simp only[Lj,hs,hp];unfold Lk mN;rw[hu,tW _ _ vp vs];have:decide ((i:Int)>0)= !((i:Int)==0):=by rw[Bool.eq_iff_iff];simp;omega
    rw[this]
   exact⟨λh i hi=>by rw[<- heq i (List.mem_range.1 hi)];exact h i hi,λh i hi=>by rw[heq i (List.mem_range.1 hi)];exact h i hi⟩
  .have⟨s,hm,hs⟩:∃s∈z.aj,dX s.set=false:=by
    simp only[Classical.not_forall]at hB;obtain⟨s,hm,hs⟩:=hB;exact⟨s,hm,by simpa using hs⟩
   obtain⟨i,hi⟩:=cN hm;obtain⟨hl,_⟩:=aB.1 hi;obtain⟨p,hp⟩:∃p,z.aj[i-1]? =some p:=⟨_,au (by omega)⟩
   rw[dK hl (by simp only[Lj,hi,hp,Lk,hs];rfl),dK hl (by rw[qS hi hp,mN,hs];rfl)]
 .simp[show bk z.af=false by simpa using hv]
def ko(af:Bs):List Signed->List Bs
 |[]=>[]
 |s::t=>if jT af s=true then s.set.name::ko af t else ko af t
theorem rC(af:Bs):∀(l:List Signed) c,c∈ko af l-> ∃s∈l,s.set.name=c
 |[],c,h=>by cases h
 |s::t,c,h=>by
  unfold ko at h;split at h
  .rcases List.mem_cons.1 h with rfl|h
   .exact⟨s,List.mem_cons_self .., rfl⟩
   .obtain⟨x,hx,e⟩:=rC af t c h;exact⟨x,bC _ hx,e⟩
  .obtain⟨x,hx,e⟩:=rC af t c h;exact⟨x,bC _ hx,e⟩
def Al(acc:List Bs)(c:Bs):Bool:=((acc.length:Int)==0)|| !bE c (nR acc)
def su:List Bs->List Bs->List Bs
 |acc,[]=>acc
 |acc,c::t=>su (if Al acc c=true then acc++[c]else acc) t
def dV(z:aL):List Bs:=su [] (ko z.af z.aj)
theorem drop_cons{α:Type}{l:List α}{k:Nat}{x:α}(h:l[k]? =some x):l.drop k=x::l.drop (k+1):=by
 obtain⟨hl,e⟩:=aB.1 h;rw[List.drop_eq_getElem_cons hl,e]
theorem pj{acc:List Bs}(h:acc.length≠0):nR acc∈acc:=by
 rw[nR,au (by omega)];exact List.getElem_mem _
def DM(cs:List Bs)(n:Bs)(k:Nat):Nat:=k+((cs.drop k).takeWhile λc=>decide (bX c n<=0)).length
def DX(cs:List Bs)(j:Nat):Bs:=(cs[j-1]?).getD []
def EE(cs:List Bs)(j:Nat)(n:Bs):Bs:=if (decide ((j:Int)>0)&&bE n (DX cs j))=true then DX cs j else[]
def bGo(cs:List Bs):Nat->List Signed->List Bs
 |_,[]=>[]
 |k,s::t=>EE cs (DM cs s.set.name k) s.set.name::bGo cs (DM cs s.set.name k) t
def IY(z:aL):List Bs:=bGo (dV z) 0 z.aj
theorem FE:∀(l acc:List Bs) c,c∈su acc l->c∈acc\/c∈l
 |[],acc,c,h=> .inl h
 |x::t,acc,c,h=>by
  rw[su]at h;rcases FE t _ c h with q|q
  .split at q
   .rcases List.mem_append.1 q with q|q
    .exact .inl q
    .simp at q;subst q;exact .inr (List.mem_cons_self ..)
   .exact .inl q
  .exact .inr (bC _ q)
def kg(b:Bool):List D:=[.bool b]
theorem rj{a z:Bs}(h:bE a z=true):bX z a<=0:=by
 rw[kJ]at h;obtain⟨t,ht⟩:=h;unfold bX;rw[<- ht];exact Hp dv _ _
theorem rl{a b c z:Bs}(ha:bE a z=true)(hc:bE c z=true)(h1:bX a b<=0)(h2:bX b c<=0):bE b z=true:=by
 rw[kJ]at ha hc ⊢;obtain⟨s,hs⟩:=ha;obtain⟨t,ht⟩:=hc;unfold bX at h1 h2;rw[<- hs]at h1;rw[<- ht]at h2;exact rA dv _ _ _ _ h1 h2
theorem mC(a:Bs):bE a a=true:=by rw[kJ];exact List.prefix_refl _
theorem ML{a b:Bs}(h:bX a b<0):bX a b= -1:=by rcases cT.range a b with e|e|e <;> omega
theorem Pu{a b c:Bs}(h:bX a b<0)(k:bX b c<0):bX a c<0:=by
 have:=cT.lt _ _ _ (ML h) (ML k);omega
theorem Jc{a b:Bs}(h:bX a b<0):¬bX b a<=0:=by have:=cT.lK a b;omega
abbrev Asc(l:List Bs):Prop:=l.Pairwise λa b=>bX a b<0
theorem EY(af:Bs):∀(l:List Signed),ie l->Asc (ko af l)
 |[],_=>List.Pairwise.nil
 |x::t,h=>by
  have ih:=EY af t h.tail;unfold ko;split
  .rename_i hx;refine List.Pairwise.cons ?_ ih;intro c hc;have hm:∀(l:List Signed) c,c∈ko af l-> ∃s∈l,s.set.name=c/\s.set.type=2:=by
    intro l;induction l with
    |nil=>intro c h;cases h
    |cons s l ih =>
     intro c h;unfold ko at h;split at h
     .rename_i hs;rcases List.mem_cons.1 h with rfl|h
      .refine⟨s,List.mem_cons_self .., rfl,?_⟩;unfold jT at hs;simp at hs;exact hs.1
      .obtain⟨y,hy,e⟩:=ih c h;exact⟨y,bC _ hy,e⟩
     .obtain⟨y,hy,e⟩:=ih c h;exact⟨y,bC _ hy,e⟩
   obtain⟨s,hs,e1,e2⟩:=hm t c hc;have hC:=nB h s hs;have kF:x.set.type=2:=by unfold jT at hx;simp at hx;exact hx.1
   unfold Signed.place at hC;rw[e1,e2,kF]at hC;unfold cpl lex at hC;split at hC
   .have:dB 2 2=0:=rfl;simp only at hC;rw[this]at hC;omega
   .exact hC
  .exact ih
def yE(l:List Bs):Prop:= ∀a∈l,∀b∈l,bE a b=true->a=b
theorem Ey{l:List Bs}(h:Asc l)(hJ:l.length≠0):∀a∈l,bX a (nR l)<=0:=by
 intro a ha;obtain⟨i,hi,rfl⟩:=List.getElem_of_mem ha;rw[nR,au (by omega),Option.getD_some];by_cases e:i=l.length-1
 .subst e;rw[(cT.zero _ _).2 rfl];exact Int.le_refl _
 .have:=List.pairwise_iff_getElem.1 h i (l.length-1) hi (by omega) (by omega);omega
theorem wa:∀(rest acc:List Bs),Asc (acc++rest)->yE acc->Asc (su acc rest)/\yE (su acc rest)/\(∀a∈acc,a∈su acc rest)/\(∀c∈rest,∃h∈su acc rest,bE c h=true)
 |[],acc,h,ha=>⟨by rw[su];simpa using h,ha,λa h=>h,λc h=>by cases h⟩
 |c::t,acc,h,ha=>by
  have kc:Asc acc:=(List.pairwise_append.1 h).1;have hC:∀a∈acc,bX a c<0:=λa hm=>(List.pairwise_append.1 h).2.2 a hm c (List.mem_cons_self ..)
  rw[su];by_cases hn:Al acc c=true
  .rw[if_pos hn];have hI:∀a∈acc,bE c a=false:=by
    intro a hm;cases hu:bE c a with
    |false=>rfl
    |true =>
     have hJ:acc.length≠0:=by cases acc with|nil=>cases hm|cons=>simp
     have h1:=Ey kc hJ a hm;have h2:=hC _ (pj hJ);have h3:=rl (mC a) hu h1 (by omega);have h4:=ha _ (pj hJ) _ hm h3;unfold Al at hn;rw[h4,hu]at hn;simp at hn;exact absurd (by simpa using hn) hJ
   have hQ:yE (acc++[c]):=by
    intro a kA b kB hu;rcases List.mem_append.1 kA with qa|qa <;> rcases List.mem_append.1 kB with qb|qb
    .exact ha a qa b qb hu
    .simp at qb;subst qb;exact absurd (rj hu) (Jc (hC a qa))
    .simp at qa;subst qa;rw[hI b qb]at hu;cases hu
    .simp at qa qb;rw[qa,qb]
   obtain⟨r1,r2,r3,r4⟩:=wa t (acc++[c]) (by simpa using h) hQ;refine⟨r1,r2,λa hm=>r3 a (List.mem_append_left _ hm),λx hx=>?_⟩;rcases List.mem_cons.1 hx with rfl|hx
   .exact⟨x,r3 x (by simp),mC x⟩
   .exact r4 x hx
  .rw[if_neg hn];have hJ:acc.length≠0:=λe=>hn (by unfold Al;rw[e];rfl)
   have hu:bE c (nR acc)=true:=by
    unfold Al at hn;simp at hn;exact hn.2
   have h' :Asc (acc++t):=by
    have h:=List.pairwise_append.1 h;refine List.pairwise_append.2 ?_;exact⟨h.1,(List.pairwise_cons.1 h.2.1).2,λa hm b hb=>h.2.2 a hm b (bC _ hb)⟩
   obtain⟨r1,r2,r3,r4⟩:=wa t acc h' ha;refine⟨r1,r2,r3,λx hx=>?_⟩;rcases List.mem_cons.1 hx with rfl|hx
   .exact⟨_,r3 _ (pj hJ),hu⟩
   .exact r4 x hx
def spec(H:List Bs)(n:Bs):Bs:=(H.find? λh=>bE n h).getD []
theorem Cn{H:List Bs}(hA:Asc H)(ha:yE H){n h:Bs}(hm:h∈H)(hu:bE n h=true):spec H n=h:=by
 unfold spec;cases hf:H.find? (λh=>bE n h)with
 |none=>have:=List.find?_eq_none.1 hf h hm;rw[hu]at this;exact absurd rfl this
 |some g =>
  have hg:=List.find?_some hf;have hT:=List.mem_of_find?_eq_some hf;show g=h
  have h1:=rj hu;have h2:=rj hg;rcases cT.range g h with e|e|e
  .exact(ha h hm g hT (rl (mC g) hg (by omega) h1)).symm
  .exact(cT.zero _ _).1 e
  .have:=cT.lK g h;exact ha g hT h hm (rl (mC h) hu (by omega) h2)
theorem Dj{H:List Bs}{n:Bs}(h:∀x∈H,bE n x=false):spec H n=[]:=by
 unfold spec;rw[List.find?_eq_none.2 λx hx=>by rw[h x hx];simp];rfl
def cnt(H:List Bs)(n:Bs):Nat:=(H.takeWhile λc=>decide (bX c n<=0)).length
theorem Mv{H:List Bs}{n:Bs}{k:Nat}(hk:k<=H.length)(kj:∀c∈H.take k,bX c n<=0):DM H n k=cnt H n:=by
 unfold DM cnt;conv=>rhs;rw[<- List.take_append_drop k H]
 rw[List.takeWhile_append_of_pos (by intro a ha;simpa using kj a ha),List.length_append,List.length_take];omega
theorem MQ(H:List Bs)(n:Bs):cnt H n<=H.length:=by
 unfold cnt;exact(List.takeWhile_sublist _).length_le
theorem OG{α:Type}{p:α->Bool}:∀{l:List α} {x:α},x∈l.takeWhile p->p x=true
 |[],x,h=>by cases h
 |y::t,x,h=>by
  rw[List.takeWhile_cons]at h;split at h
  .rcases List.mem_cons.1 h with rfl|h
   .assumption
   .exact OG h
  .cases h
theorem ER(H:List Bs)(n:Bs):∀c∈H.take (cnt H n),bX c n<=0:=by
 intro c hc;have:H.take (cnt H n)=H.takeWhile λc=>decide (bX c n<=0):=by
  unfold cnt;exact(List.prefix_iff_eq_take.1 (List.takeWhile_prefix _)).symm
 rw[this]at hc;have:=OG hc;simpa using this
theorem Ru(H:List Bs)(n:Bs):H.take (cnt H n)=H.takeWhile λc=>decide (bX c n<=0):=by
 unfold cnt;exact(List.prefix_iff_eq_take.1 (List.takeWhile_prefix _)).symm
theorem xV{a b c:Bs}(h:bX a b<0)(k:bX b c<=0):bX a c<=0:=by
 rcases cT.range b c with e|e|e
 .have:=Pu h (by omega:bX b c<0);omega
 .rw[<- (cT.zero _ _).1 e];omega
 .omega
theorem Pt{a b c:Bs}(h:bX a b<=0)(k:bX b c<=0):bX a c<=0:=by
 rcases cT.range a b with e|e|e
 .exact xV (by omega) k
 .rw[(cT.zero _ _).1 e];exact k
 .omega
theorem Jv{n h:Bs}(hle:bX h n<=0):∀{H:List Bs},Asc H->h∈H->h∈H.takeWhile λc=>decide (bX c n<=0)
 |[],_,hm=>by cases hm
 |x::t,hA,hm=>by
  rcases List.mem_cons.1 hm with rfl|hm
  .rw[List.takeWhile_cons,if_pos (by simpa using hle)];exact List.mem_cons_self ..
  .have hx:=(List.pairwise_cons.1 hA).1 h hm;rw[List.takeWhile_cons,if_pos (by simpa using xV hx hle)];exact bC _ (Jv hle (List.pairwise_cons.1 hA).2 hm)
theorem MD{H:List Bs}(hA:Asc H)(ha:yE H)(n:Bs):EE H (cnt H n) n=spec H n:=by
 have kr:cnt H n≠0->DX H (cnt H n)=nR (H.take (cnt H n))/\(H.take (cnt H n)).length≠0:=λh0=>by
  have hl:=MQ H n;have e:(H.take (cnt H n)).length=cnt H n:=by rw[List.length_take];omega
  refine⟨?_,by omega⟩;unfold DX nR;rw[e,List.getElem?_take,if_pos (by omega)]
 by_cases hex:∃h∈H,bE n h=true
 .obtain⟨h,hm,hu⟩:=hex;have hM:=Jv (rj hu) hA hm;rw[<- Ru]at hM;have h0:cnt H n≠0:=λe=>by rw[e]at hM;cases hM
  obtain⟨e1,e2⟩:=kr h0;have hAt:Asc (H.take (cnt H n)):=hA.sublist (List.take_sublist _ _);have h1:=Ey hAt e2 h hM;have hT:=pj e2;have h2:=ER H n _ hT;have h3:=ha _ (List.mem_of_mem_take hT) _ hm (rl (mC h) hu h1 h2);have ki:decide (((cnt H n:Nat):Int)>0)=true:=by simp;omega
  rw[Cn hA ha hm hu,EE,e1,h3,hu,ki];rfl
 .have hI:∀x∈H,bE n x=false:=λx hx=>by
   cases hu:bE n x with
   |false=>rfl
   |true=>exact absurd ⟨x,hx,hu⟩ hex
  rw[Dj hI];by_cases h0:cnt H n=0
  .rw[EE,h0];rfl
  .obtain⟨e1,e2⟩:=kr h0;rw[EE,e1,hI _ (List.mem_of_mem_take (pj e2)),mf];rfl
theorem yr{l:List Signed}{x:Signed}(h:ie (x::l)):∀s∈l,bX x.set.name s.set.name<=0:=λs hs=>by
 have hC:=nB h s hs;unfold cpl lex Signed.place at hC;simp only at hC;split at hC
 .omega
 .omega
theorem ED{H:List Bs}(hA:Asc H)(ha:yE H):∀(l:List Signed) (k:Nat),ie l->k<=H.length->(∀s∈l,∀c∈H.take k,bX c s.set.name<=0)->bGo H k l=l.map λs=>spec H s.set.name
 |[],_,_,_,_=>rfl
 |s::t,k,hr,hk,hp=>by
  have e:=Mv hk (hp s (List.mem_cons_self ..));rw[bGo,e,MD hA ha,List.map_cons]
  congr 1
  refine ED hA ha t _ hr.tail (MQ _ _) λx hx c hc=>?_
  exact Pt (ER _ _ c hc) (yr hr x hx)
theorem Am{z:aL}(h:Ordered z):Asc (dV z)/\yE (dV z)/\ ∀c∈ko z.af z.aj,∃g∈dV z,bE c g=true:=by
 obtain⟨h1,h2,_,h4⟩:=wa (ko z.af z.aj) [] (by simpa using EY z.af z.aj h.rising) (λa ha=>by cases ha);exact⟨h1,h2,h4⟩
theorem vm{z:aL}(h:Ordered z):IY z=z.aj.map λs=>spec (dV z) s.set.name:=by
 obtain⟨h1,h2,_⟩:=Am h;exact ED h1 h2 z.aj 0 h.rising (by omega) λs _ c hc=>by cases hc
theorem Da:∀{l:List Signed},ie l->l.Pairwise λa b=>bX a.set.name b.set.name<=0
 |[],_=>List.Pairwise.nil
 |x::t,h=>List.Pairwise.cons (yr h) (Da h.tail)
theorem yO(af n:Bs):∀(l:List Signed),gp af l n=true ↔ n∈ko af l
 |[]=>by simp[gp,ko]
 |s::t=>by
  have ih:=yO af n t;unfold gp at ih ⊢;unfold ko;rw[List.any_cons,Bool.or_eq_true,ih];by_cases h:jT af s=true
  .rw[if_pos h,h,ic,List.mem_cons,beq_iff_eq];exact⟨λk=>k.imp (λe=>e.symm) id,λk=>k.imp (λe=>e.symm) id⟩
  .have h' :jT af s=false:=by simpa using h
   rw[if_neg h,h'];simp
theorem Rk(H:List Bs)(n:Bs):spec H n=[]\/spec H n∈H:=by
 unfold spec;cases hf:H.find? (λh=>bE n h)with
 |none=>exact .inl rfl
 |some g=>exact .inr (List.mem_of_find?_eq_some hf)
theorem yY{z:aL}{h:Bs}(hm:h∈dV z):h∈ko z.af z.aj:=by
 rcases FE _ _ _ hm with q|q
 .cases q
 .exact q
theorem An{z:aL}(ho:Ordered z){h:Bs}(hm:h∈dV z):bk h=true:=by
 obtain⟨s,hs,e⟩:=rC _ _ _ (yY hm);rw[<- e];exact ho.name s hs
theorem OB{z:aL}(ho:Ordered z){pre t:List Signed}{s:Signed}{c:Bs}(hz:pre++s::t=z.aj)
 (hc:(pre=[]/\c=[])\/ ∃p y,pre=p++[y]/\c=spec (dV z) y.set.name):lj (gp z.af z.aj) c s.set.name=spec (dV z) s.set.name:=by
 obtain⟨hA,ha,ke⟩:=Am ho;have hX:s∈z.aj:=by rw[<- hz];simp
 have vs:=ho.name s hX;have km:c=[]\/c∈dV z:=by
  rcases hc with ⟨_,e⟩|⟨p,y,_,e⟩
  .exact .inl e
  .rw[e];exact Rk _ _
 have hu:∀h∈dV z,(bJ s.set.name h).1=bE s.set.name h:=λh hm=>by
  unfold bJ;rw[if_pos ⟨vs,An ho hm⟩]
 have hJ:∀h∈dV z,(h==[])=false:=λh hm=>by
  have:=An ho hm;cases h with
  |nil=>exact absurd this (by decide)
  |cons=>rfl
 have ks:=Da ho.rising;rw[<- hz]at ks;obtain⟨q1,q2,q3⟩:=List.pairwise_append.1 ks;by_cases hex:∃h∈dV z,bE s.set.name h=true
 .obtain⟨h,hm,hP⟩:=hex;rw[Cn hA ha hm hP];by_cases kd:c=h
  .subst kd;unfold lj;simp only[hJ c hm,hu c hm,hP,sf,mf,xc,fR,if_false]
  .have kh:s.set.name=h:=by
    refine Classical.byContradiction λkp=>kd ?_
    have hle:=rj hP;have hC:bX h s.set.name<0:=by
     rcases cT.range h s.set.name with e|e|e
     .omega
     .exact absurd ((cT.zero _ _).1 e).symm kp
     .omega
    obtain⟨x,hx,ex⟩:=rC _ _ _ (yY hm);rw[<- hz]at hx;have kb:x∈pre:=by
     rcases List.mem_append.1 hx with k|k
     .exact k
     .rcases List.mem_cons.1 k with rfl|k
      .exact absurd ex kp
      .have:=(List.pairwise_cons.1 q2).1 x k;rw[ex]at this;exact absurd this (Jc hC)
    rcases hc with ⟨e,_⟩|⟨p,y,e,ec⟩
    .rw[e]at kb;cases kb
    .have kH:=q3 y (by rw[e];simp) s (List.mem_cons_self ..);have kt:bX x.set.name y.set.name<=0:=by
      rw[e]at kb q1;rcases List.mem_append.1 kb with k|k
      .exact(List.pairwise_append.1 q1).2.2 x k y (by simp)
      .simp at k;subst k;rw[(cT.zero _ _).2 rfl];exact Int.le_refl _
     rw[ex]at kt;rw[ec,Cn hA ha hm (rl (mC h) hP kt kH)]
   have hN:gp z.af z.aj s.set.name=true:=(yO _ _ _).2 (by rw[kh];exact yY hm);have hS :(if (!(c==[])&& !(bJ s.set.name c).1)=true then[]else c)=[]:=by
    rcases km with e|e
    .subst e;rfl
    .have:bE s.set.name c=false:=by
      cases hk:bE s.set.name c with
      |false=>rfl
      |true=>exact absurd (ha h hm c e (by rw[<- kh];exact hk)).symm kd
     rw[hJ c e,hu c e,this];rfl
   unfold lj;simp only[hS,hN];exact kh
 .have hI:∀x∈dV z,bE s.set.name x=false:=λx hx=>by
   cases hk:bE s.set.name x with
   |false=>rfl
   |true=>exact absurd ⟨x,hx,hk⟩ hex
  rw[Dj hI];have hN:gp z.af z.aj s.set.name=false:=by
   cases hk:gp z.af z.aj s.set.name with
   |false=>rfl
   |true =>
    obtain⟨g,hg,kn⟩:=ke _ ((yO _ _ _).1 hk);rw[hI g hg]at kn;cases kn
  have hS :(if (!(c==[])&& !(bJ s.set.name c).1)=true then[]else c)=[]:=by
   rcases km with e|e
   .subst e;rfl
   .rw[hJ c e,hu c e,hI c e];rfl
  unfold lj;simp only[hS,hN];rfl
theorem Ja{z:aL}(ho:Ordered z):∀(l pre:List Signed) (c:Bs),pre++l=z.aj->((pre=[]/\c=[])\/ ∃p y,pre=p++[y]/\c=spec (dV z) y.set.name) ->
 bh (gp z.af z.aj) c l=l.map λs=>spec (dV z) s.set.name
 |[],_,_,_,_=>rfl
 |s::t,pre,c,hz,hc=>by
  rw[bh,OB ho hz hc,List.map_cons]
  congr 1
  exact Ja ho t (pre++[s]) _ (by rw[<- hz];simp) (.inr ⟨pre,s,rfl,rfl⟩)
theorem ME{z:aL}(ho:Ordered z):IY z=dM z:=by
 rw[vm ho];exact(Ja ho z.aj [] [] rfl (.inl ⟨rfl,rfl⟩)).symm
theorem jZ:∀{l:List Signed},ie l-> ∀{i j:Nat} {a b:Signed},i<j->l[i]? =some a->l[j]? =some b->cpl a.place b.place<0
 |[],_,_,_,_,_,_,h,_=>by cases h
 |x::t,hr,i,j,a,b,ku,ha,hb=>by
  cases j with
  |zero=>omega
  |succ j =>
   cases i with
   |zero=>cases ha;exact nB hr b (aC hb)
   |succ i=>exact jZ hr.tail (by omega) ha hb
theorem oF{a b:Signed}(h:cpl a.place b.place<0):bX a.set.name b.set.name<=0/\(a.set.name=b.set.name->a.set.type<b.set.type):=by
 unfold cpl lex Signed.place at h;simp only at h;split at h
 .rename_i e;refine⟨by omega,λ_=>?_⟩;unfold dB at h;split at h
  .assumption
  .split at h <;> omega
 .rename_i e;exact⟨by omega,λk=>absurd ((cT.zero _ _).2 k) e⟩
theorem RN{a b:Bs}(h:bX a b<=0)(k:bX b a<=0):a=b:=by
 have:=cT.lK a b;exact(cT.zero _ _).1 (by omega)
theorem Es{z:aL}{i:Nat}{s p:Signed}(hs:z.aj[i]? =some s)(hp:z.aj[i-1]? =some p) :
 oN z i=false ↔ s.set.type=3/\((0<i/\p.set.name=s.set.name)\/ ∃x,z.aj[i+1]? =some x/\x.set.name=s.set.name/\x.set.type≠8):=by
 simp only[oN,hs,hp,Option.getD_some,Bool.not_eq_false'];unfold vj;by_cases hC:i+1<z.aj.length
 .obtain⟨x,hx⟩:∃x,z.aj[i+1]? =some x:=⟨_,au hC⟩
  have hd:decide (((i:Nat):Int)+1<(z.aj.length:Int))=true:=by simp;omega
  simp[hx,hd]
 .have hx:z.aj[i+1]? =none:=by simp;omega
  have hd:decide (((i:Nat):Int)+1<(z.aj.length:Int))=false:=by simp;omega
  simp[hx,hd]
theorem yR{α:Type}{a b:List α}(hl:a.length=b.length)(h:∀i,i<a.length->a[i]? =b[i]?):a=b:=by
 apply List.ext_getElem?;intro i;by_cases hi:i<a.length
 .exact h i hi
 .rw[List.getElem?_eq_none (by omega),List.getElem?_eq_none (by omega)]
theorem BF{α:Type}{a b:List α}{k:Nat}(h:∀i,i<k->a[i]? =b[i]?)(hk:a[k]? =b[k]?):∀i,i<k+1->a[i]? =b[i]? :=λi hi=>by
 rcases Nat.lt_or_eq_of_le (Nat.le_of_lt_succ hi)with h1|rfl
 .exact h i h1
 .exact hk
theorem nU{α:Type}[DecidableEq α]{a b:α}(h:a≠b):AV.d (D.bool false)=AV.d (D.bool (decide (a=b))):=by rw[decide_eq_false h]
theorem Hf{α:Type}[DecidableEq α]{a b:α}(h:a=b):AV.d (D.bool true)=AV.d (D.bool (decide (a=b))):=by rw[decide_eq_true h]
theorem FU{α β:Type}{f:α->β}{a b:List α}(h:(((a.map f).length:Int) != ((b.map f).length:Int))=false):a.length=b.length:=by
 simp at h;omega
theorem Ly(a b:cG)(ha:a.data.length<=100000):NQ.Fn cx 59 [.agg (cg a),.agg (cg b)] (.d (.bool (decide (a=b)))) []:=by
 refine aU bp mixed Tryz.func59 ?_;conv=>whnf
 (refine ak (λh=>?_) (λh=>?_) <;> (rw[h];conv=>whnf))
 .exact al rfl (nU λe=>by subst e;simp at h)
 have h1:a.name=b.name:=by simpa using h
 (refine ak (λh=>?_) (λh=>?_) <;> (rw[h];conv=>whnf))
 .exact al rfl (nU λe=>by subst e;simp at h)
 have h2:a.type=b.type:=by simpa using h
 (refine ak (λh=>?_) (λh=>?_) <;> (rw[h];conv=>whnf))
 .exact al rfl (nU λe=>by subst e;simp at h)
 have h3:a.aP=b.aP:=by simpa using h
 (refine ak (λh=>?_) (λh=>?_) <;> (rw[h];conv=>whnf))
 .exact al rfl (nU λe=>by subst e;simp at h)
 have h4:=FU h;refine⟨Nat,λk=>⟨[(2,.ptr 2 0),(3,.ptr 3 0),(5,.d (.int .i64 k))],[(2,.box ((cg a).map .d)),(3,.box ((cg b).map .d))]⟩,λk=>k<=a.data.length/\ ∀i,i<k->a.data[i]? =b.data[i]?, λk=>a.data.length-k,⟨0,⟨by omega,λi hi=>by omega⟩,aK.keep ⟨ae,ae,ae,trivial⟩ ⟨ae,ae,trivial⟩⟩,λk ⟨hk,hB⟩=>?_⟩;conv=>whnf
 refine ak (λh1=>?_) (λh1=>?_) <;> (rw[h1];conv=>whnf)
 .have hC:k<a.data.length:=by simp at h1;omega
  obtain⟨x,hx⟩:∃s,a.data[k]? =some s:=⟨_,au hC⟩
  obtain⟨y,hy⟩:∃s,b.data[k]? =some s:=⟨_,au (by omega)⟩
  (refine bV ?_;conv=>whnf)
  refine⟨aD k,aQ x,aN hx,?_⟩;conv=>whnf
  refine⟨aD k,aQ y,aN hy,?_⟩;conv=>whnf
  (refine ak (λh=>?_) (λh=>?_) <;> (rw[h];conv=>whnf))
  .refine al rfl (nU λe=>?_);subst e;rw[hx]at hy;cases hy;simp at h
  .refine⟨k+1,⟨by omega,BF hB ?_⟩,by(show a.data.length-(k+1)<a.data.length-k;omega),aK.keep ⟨ae,ae,⟨ax (by omega),rfl⟩,trivial⟩ ⟨ae,ae,trivial⟩⟩;rw[hx,hy];simp at h;cases x;cases y;simp at h ⊢;exact⟨h.1,h.2.1,h.2.2⟩
 .obtain rfl:k=a.data.length:=by simp at h1;omega
  refine al rfl (Hf ?_);have e:=yR h4 hB;cases a;cases b;simp at *; exact⟨by assumption,by assumption,by assumption,e⟩
theorem DE(a b:Signed)(ha:a.set.data.length<=100000)(hs:a.sigs.length<=100000):NQ.Fn cx 79 [.agg (aw a),.agg (aw b)] (.d (.bool (decide (a=b)))) []:=by
 refine aU bp mixed Tryz.func79 ?_;conv=>whnf
 (refine⟨_,_,Ly a.set b.set ha,?_⟩;conv=>whnf)
 (refine ak (λh=>?_) (λh=>?_) <;> (rw[h];conv=>whnf))
 .exact al rfl (nU λe=>by subst e;simp at h)
 have h1:a.set=b.set:=by simpa using h
 (refine ak (λh=>?_) (λh=>?_) <;> (rw[h];conv=>whnf))
 .exact al rfl (nU λe=>by subst e;simp at h)
 have h4:=FU h;refine⟨Nat,λk=>⟨[(2,.ptr 2 0),(3,.ptr 3 0),(5,.d (.int .i64 k))],[(2,.box ((aw a).map .d)),(3,.box ((aw b).map .d))]⟩,λk=>k<=a.sigs.length/\ ∀i,i<k->a.sigs[i]? =b.sigs[i]?, λk=>a.sigs.length-k,⟨0,⟨by omega,λi hi=>by omega⟩,aK.keep ⟨ae,ae,ae,trivial⟩ ⟨ae,ae,trivial⟩⟩,λk ⟨hk,hB⟩=>?_⟩;conv=>whnf
 refine ak (λh1=>?_) (λh1=>?_) <;> (rw[h1];conv=>whnf)
 .have hC:k<a.sigs.length:=by simp at h1;omega
  obtain⟨x,hx⟩:∃s,a.sigs[k]? =some s:=⟨_,au hC⟩
  obtain⟨y,hy⟩:∃s,b.sigs[k]? =some s:=⟨_,au (by omega)⟩
  (refine bV ?_;conv=>whnf)
  refine⟨aD k,gK x,aN hx,?_⟩;conv=>whnf
  refine⟨aD k,gK y,aN hy,?_⟩;conv=>whnf
  (refine ak (λh=>?_) (λh=>?_) <;> (rw[h];conv=>whnf))
  .refine al rfl (nU λe=>?_);subst e;rw[hx]at hy;cases hy;simp at h
  .refine⟨k+1,⟨by omega,BF hB ?_⟩,by(show a.sigs.length-(k+1)<a.sigs.length-k;omega),aK.keep ⟨ae,ae,⟨ax (by omega),rfl⟩,trivial⟩ ⟨ae,ae,trivial⟩⟩;rw[hx,hy];simp at h;cases x;cases y;simp at h ⊢;exact h
 .obtain rfl:k=a.sigs.length:=by simp at h1;omega
  refine al rfl (Hf ?_);have e:=yR h4 hB;cases a;cases b;simp at *; exact⟨by assumption,e⟩
theorem Iq(a b:List Signed)(ha:a.length<=100000)(hs:∀s∈a,s.set.data.length<=100000/\s.sigs.length<=100000):NQ.Fn cx 35 [.slice 5 (a.map aw),.slice 5 (b.map aw)] (.d (.bool (decide (a=b)))) []:=by
 refine aU bp mixed Tryz.func35 ?_;conv=>whnf
 (refine ak (λh=>?_) (λh=>?_) <;> (rw[h];conv=>whnf))
 .exact al rfl (nU λe=>by subst e;simp at h)
 have h4:=FU h;refine⟨Nat,λk=>⟨[(0,.d (.slice 5 (a.map aw))),(1,.d (.slice 5 (b.map aw))),(5,.d (.int .i64 k))],[]⟩,λk=>k<=a.length/\ ∀i,i<k->a[i]? =b[i]?, λk=>a.length-k,⟨0,⟨by omega,λi hi=>by omega⟩,aK.keep ⟨ae,ae,ae,trivial⟩ trivial⟩,λk ⟨hk,hB⟩=>?_⟩;conv=>whnf
 refine ak (λh1=>?_) (λh1=>?_) <;> (rw[h1];conv=>whnf)
 .have hC:k<a.length:=by simp at h1;omega
  obtain⟨x,hx⟩:∃s,a[k]? =some s:=⟨_,au hC⟩
  obtain⟨y,hy⟩:∃s,b[k]? =some s:=⟨_,au (by omega)⟩
  have hX:=hs x (aC hx)
  (refine bV ?_;conv=>whnf)
  refine⟨aD k,aw x,aN hx,?_⟩;conv=>whnf
  refine⟨aD k,aw y,aN hy,?_⟩;conv=>whnf
  (refine⟨_,_,DE x y hX.1 hX.2,?_⟩;conv=>whnf)
  (refine ak (λh=>?_) (λh=>?_) <;> (rw[h];conv=>whnf))
  .refine al rfl (nU λe=>?_);subst e;rw[hx]at hy;cases hy;simp at h
  .refine⟨k+1,⟨by omega,BF hB ?_⟩,by(show a.length-(k+1)<a.length-k;omega),aK.keep ⟨ae,ae,⟨ax (by omega),rfl⟩,trivial⟩ trivial⟩;rw[hx,hy];simp at h;rw[h]
 .obtain rfl:k=a.length:=by simp at h1;omega
  exact al rfl (Hf (yR h4 hB))
theorem Ir(a b:aL)(ha:a.aj.length<=100000)(hs:∀s∈a.aj,s.set.data.length<=100000/\s.sigs.length<=100000):NQ.Fn cx 10 [.agg (aX a),.agg (aX b)] (.d (.bool (decide (a=b)))) []:=by
 refine aU bp mixed Tryz.func10 ?_;conv=>whnf
 (refine ak (λh=>?_) (λh=>?_) <;> (rw[h];conv=>whnf))
 .have h1:a.af=b.af:=by simpa using h
  (refine⟨_,_,Iq a.aj b.aj ha hs,?_⟩;conv=>whnf)
  refine al rfl ?_;show AV.d (D.bool (decide (a.aj=b.aj)))=_
  congr 2
  cases a;cases b;simp at h1 ⊢;subst h1;simp
 .exact al rfl (nU λe=>by subst e;simp at h)
end Go.Proofs.YtodofogcincleaaGreatDoor
