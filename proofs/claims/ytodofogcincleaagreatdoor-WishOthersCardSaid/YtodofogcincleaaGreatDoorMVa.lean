/-
  Merged texts.
-/
import Derived.Test.YtodofogcincleaaGreatDoorTyM
import Derived.Test.YtodofogcincleaaGreatDoorMZb
set_option linter.all false
namespace NP
open NQ Go
def aG(d:Datum):List D:=[.str d.text,.int .i64 d.n,.int .i64 d.m]
def mE(g:Sig):List D:=[.str g.zone,.int .i64 g.key,.int .i64 g.alg,.int .i64 g.since,.int .i64 g.till,.int .u64 g.sum]
def bN(s:cu):List D:=[.str s.name,.int .i64 s.type,.int .i64 s.life,.slice 3 (s.data.map aG)]
def ak(s:Signed):List D:=[.str s.set.name,.int .i64 s.set.type,.int .i64 s.set.life,.slice 3 (s.set.data.map aG),.slice 6 (s.sigs.map mE)]
def aH(z:aD):List D:=[.str z.apex,.slice 5 (z.sets.map ak)]
def nK(q:dq):List D:=[.str q.name,.int .i64 q.type]
def BS(r:wF):List D:=[.int .i64 r.text,.int .i64 r.leastN,.int .i64 r.mostN,.int .i64 r.leastM,.int .i64 r.mostM,.bool r.even,.bool r.single,.bool r.Jw]
end NP
namespace Go.Proofs.YtodofogcincleaaGreatDoor
open NQ Go NP Go.RowKit
theorem Jk{w:World}{O L:Nat->Prop}{σ:Nat->Value}{a b:AV}{u v:Value}(h1:ar w O L σ a u)(h2:ar w O L σ b v):ar w O L σ (.tuple [a,b]) (.tuple #[u,v]):=by
 refine .tuple _ _ rfl λj c hj=>?_
 rcases j with _|_|j
 . cases hj;exact h1
 . cases hj;exact h2
 . simp at hj
theorem lC(s:Bs):NQ.Fn cx 68 [.str s] (.d (.bool (aQ s))) []:=by
 refine dQ ⟨_,Tryz.func68,by kernel_rfl,by kernel_rfl⟩ rfl λw vs _ hsz hrep=>?_
 obtain⟨b,hb,rfl⟩:=eM (hrep 0 _ rfl);rw[sU hsz,hb];exact(EL b w).mono λe w' ⟨he,hbel⟩=>⟨_,he,hbel,.eF _⟩
theorem JC(s:Bs):NQ.Fn cx 22 [.str s] (.d (.bool (aQ s))) []:=by
 refine dQ ⟨_,Tryz.func22,by kernel_rfl,by kernel_rfl⟩ rfl λw vs _ hsz hrep=>?_
 obtain⟨b,hb,rfl⟩:=eM (hrep 0 _ rfl);rw[sU hsz,hb];exact(Cd b w).mono λe w' ⟨he,hbel⟩=>⟨_,he,hbel,.eF _⟩
theorem sZ(s:Bs):NQ.Fn cx 81 [.str s] (.d (.bool (jz s))) []:=by
 refine dQ ⟨_,Tryz.func81,by kernel_rfl,by kernel_rfl⟩ rfl λw vs _ hsz hrep=>?_
 obtain⟨b,hb,rfl⟩:=eM (hrep 0 _ rfl);rw[sU hsz,hb];exact(wW b w).mono λe w' ⟨he,hbel⟩=>⟨_,he,hbel ▸ Below.refl _ _,.eF _⟩
theorem JB(s:Bs):NQ.Fn cx 201 [.str s] (.tuple [.d (.str (gU s).1),.d (.int .i64 (gU s).2)]) []:=by
 refine dQ ⟨_,Tryz.func201,by kernel_rfl,by kernel_rfl⟩ rfl λw vs _ hsz hrep=>?_
 obtain⟨b,hb,rfl⟩:=eM (hrep 0 _ rfl);rw[sU hsz,hb];exact(Cc b w).mono λe w' ⟨he,hbel⟩=>⟨_,he,hbel,Jk (.d _ _ (.str _ _ (S_mk _))) (.mkInt _ _)⟩
theorem mK(s z:Bs):NQ.Fn cx 94 [.str s,.str z] (.tuple [.d (.bool (bo s z).1),.d (.int .i64 (bo s z).2)]) []:=by
 refine dQ ⟨_,Tryz.func94,by kernel_rfl,by kernel_rfl⟩ rfl λw vs _ hsz hrep=>?_
 obtain⟨b,hb,rfl⟩:=eM (hrep 0 _ rfl);obtain⟨c,hc,rfl⟩:=eM (hrep 1 _ rfl);rw[vC hsz,hb,hc];exact(EK b c w).mono λe w' ⟨he,hbel⟩=>⟨_,he,hbel,Jk (.eF _) (.mkInt _ _)⟩
theorem xq(s z:Bs):NQ.Fn cx 204 [.str s,.str z] (.tuple [.d (.int .i64 (dW s z).1),.d (.int .i64 (dW s z).2)]) []:=by
 refine dQ ⟨_,Tryz.func204,by kernel_rfl,by kernel_rfl⟩ rfl λw vs _ hsz hrep=>?_
 obtain⟨b,hb,rfl⟩:=eM (hrep 0 _ rfl);obtain⟨c,hc,rfl⟩:=eM (hrep 1 _ rfl);rw[vC hsz,hb,hc];exact(Br b c w).mono λe w' ⟨he,hbel⟩=>⟨_,he,hbel,Jk (.mkInt _ _) (.mkInt _ _)⟩
theorem Bp(x lo hi:Int):NQ.Fn cx 80 [.int .i64 x,.int .i64 lo,.int .i64 hi] (.d (.bool (within x lo hi))) []:=by
 refine dQ ⟨_,Tryz.func80,by kernel_rfl,by kernel_rfl⟩ rfl λw vs _ hsz hrep=>?_
 rw[Pm hsz,vw (hrep 0 _ rfl),vw (hrep 1 _ rfl),vw (hrep 2 _ rfl)];exact(jF x lo hi w).mono λe w' ⟨he,hbel⟩=>⟨_,he,hbel ▸ Below.refl _ _,.eF _⟩
theorem Np(x:Int):NQ.Fn cx 93 [.int .i64 x] (.d (.bool false)) []:=by
 refine aK aV mixed Tryz.func93 (by kernel_rfl) rfl (ag rfl) ?_;conv=>whnf
 repeat' (first|(refine af (λh=>?_) (λh=>?_) <;> (rw[h];conv=>whnf))|fail)
 all_goals (refine aj rfl ?_;simp[D.dv])
theorem kg(x y:Int):NQ.Fn cx 44 [.int .i64 x,.int .i64 y] (.d (.int .i64 (cY x y))) []:=by
 refine aK aV mixed Tryz.func44 (by kernel_rfl) rfl (ag rfl) ?_;conv=>whnf
 repeat' (first|(refine⟨_,_,Np _,?_⟩;conv=>whnf)|(refine af (λh=>?_) (λh=>?_) <;> (rw[h];conv=>whnf))|fail)
 all_goals (refine aj rfl ?_;simp_all [D.dv,cY];try omega)
theorem tA(x y:Bs):NQ.Fn cx 142 [.str x,.str y] (.d (.int .i64 (Go.Lib.compareBytes x y))) []:=by
 refine dQ ⟨_,Tryz.func142,by kernel_rfl,by kernel_rfl⟩ rfl λw vs _ hsz hrep=>?_
 obtain⟨b,hb,rfl⟩:=eM (hrep 0 _ rfl);obtain⟨c,hc,rfl⟩:=eM (hrep 1 _ rfl);rw[vC hsz,hb,hc];exact(xL b c w).mono λe w' ⟨he,hbel⟩=>⟨_,he,hbel ▸ Below.refl _ _,.mkInt _ _⟩
end Go.Proofs.YtodofogcincleaaGreatDoor
set_option maxRecDepth 100000
namespace NP
open NQ Go
def kx(l:List Int):Int:=(l.find? (· != 0)).getD 0
theorem Fu{l:List Int}{k:Nat}(h:(List.range k).all (λi=>(l[i]?.getD 0)==0)=true)(hk:l.length<=k):kx l=0:=by
 have:l.find? (· != 0)=none:=by
  rw[List.find?_eq_none];intro x hx;obtain⟨j,hj,rfl⟩:=List.getElem_of_mem hx;have:=ay.1 h j (List.mem_range.2 (by omega));simpa [hj] using this
 rw[kx,this];rfl
theorem Fv{l:List Int}:∀{k:Nat} {x:Int},(List.range k).all (λi=>(l[i]?.getD 0)==0)=true->l[k]? =some x->x≠0->kx l=x:=by
 induction l with
 |nil=>intro k x _ h;simp at h
 |cons a t ih =>
  intro k x h hx h0;cases k with
  |zero=>simp at hx;subst hx;simp[kx,h0]
  |succ k =>
   have ha:a=0:=by have:=ay.1 h 0 (List.mem_range.2 (by omega));simpa using this
   have:=ih (k:=k) (x:=x) (ay.2 λi hi=>by
    have:=ay.1 h (i+1) (List.mem_range.2 (by have:=List.mem_range.1 hi;omega));simpa using this) (by simpa using hx) h0
   simpa [kx,ha] using this
theorem GG(x y z:Int):kx [x,y,z]=if x=0 then(if y=0 then z else y)else x:=by
 by_cases hx:x=0 <;> by_cases hy:y=0 <;> by_cases hz:z=0 <;> simp[kx,hx,hy,hz]
end NP
namespace Go.Proofs.YtodofogcincleaaGreatDoor
open NQ Go NP Go.RowKit
theorem KE(s:Bs):NQ.Fn cx 141 [.str s] (.d (.bool (cj s))) []:=by
 refine dQ ⟨_,Tryz.func141,by kernel_rfl,by kernel_rfl⟩ rfl λw vs _ hsz hrep=>?_
 obtain⟨b,hb,rfl⟩:=eM (hrep 0 _ rfl);rw[sU hsz,hb];exact(Ds b w).mono λe w' ⟨he,hbel⟩=>⟨_,he,hbel ▸ Below.refl _ _,.eF _⟩
theorem BE(r:wF)(d:Datum):NQ.Fn cx 82 [.agg (BS r),.agg (aG d)] (.d (.bool (mG r d))) []:=by
 refine aK aV mixed Tryz.func82 (by kernel_rfl) rfl (ag rfl) ?_;conv=>whnf
 repeat' (first|(refine⟨_,_,Bp _ _ _,?_⟩;conv=>whnf)|(refine⟨_,_,sZ _,?_⟩;conv=>whnf)|(refine⟨_,_,lC _,?_⟩;conv=>whnf)|(refine⟨_,_,KE _,?_⟩;conv=>whnf)|(refine af (λh=>?_) (λh=>?_) <;> (rw[h];conv=>whnf))|fail)
 all_goals
  refine aj rfl ?_;simp only[D.dv,mG,uJ]
  simp_all
def jf(n:Int):List D:=[.int .i64 n]
theorem BQ(l:List Int)(hl:l.length<=1000):NQ.Fn cx 108 [.slice 1 (l.map jf)] (.d (.int .i64 (kx l))) []:=by
 refine aK aV mixed Tryz.func108 (by kernel_rfl) rfl (ag rfl) ?_;conv=>whnf
 refine⟨Nat,λk=>⟨[(0,.d (.slice 1 (l.map jf))),(3,.d (.int .i64 0)),(6,.d (.slice 1 (l.map jf))),(7,.d (.int .i64 ((l.map jf).length:Int))),(8,.d (.int .i64 k))],[]⟩,
  λk=>k<=l.length/\(List.range k).all (λi=>(l[i]?.getD 0)==0)=true,λk=>l.length-k,⟨0,⟨by omega,rfl⟩,aC.keep ⟨ae,ae,ae,ae,ae,trivial⟩ trivial⟩,λk ⟨hk,hall⟩=>?_⟩
 conv=>whnf
 refine af (λh1=>?_) (λh1=>?_) <;> (rw[h1];conv=>whnf)
 . have hlt:k<l.length:=by simp at h1;omega
   obtain⟨g,hg⟩:∃g,l[k]? =some g:=⟨_,ai hlt⟩
   refine⟨aw k,jf g,aB hg,?_⟩
   conv=>whnf
   refine af (λh=>?_) (λh=>?_) <;> (rw[h];conv=>whnf)
   . refine aj rfl ?_;rw[Fv hall hg (by simpa using h)];rfl
   . refine⟨k+1,⟨by omega,?_⟩,by(show l.length-(k+1)<l.length-k;omega),aC.keep ⟨ae,ae,ae,ae,⟨ao (by omega),rfl⟩,trivial⟩ trivial⟩;rw[di,hall,hg];simpa using h
 . refine aj rfl ?_;rw[Fu hall (by simp at h1;omega)];rfl
theorem zC(a b:Datum):NQ.Fn cx 83 [.agg (aG a),.agg (aG b)] (.d (.int .i64 (eK a b))) []:=by
 refine aK aV mixed Tryz.func83 (by kernel_rfl) rfl (ag rfl) ?_;conv=>whnf
 repeat' (first|(refine⟨(by kernel_rfl:bE _ _=true),?_⟩;conv=>whnf)|(refine⟨_,_,tA _ _,?_⟩;conv=>whnf)|(refine⟨_,_,kg _ _,?_⟩;conv=>whnf)|fail)
 refine⟨_,BQ [_,_,_] (by simp),rfl,?_⟩
 conv=>whnf
 refine aj rfl ?_;rw[GG];rfl
end Go.Proofs.YtodofogcincleaaGreatDoor
namespace NP
open NQ Go
def tJ(r:wF)(i:Nat)(d p:Datum):Bool:= !mG r d||(decide ((i:Int)>0)&&decide (eK p d>=0))
def uX(r:wF)(l:List Datum)(i:Nat):Bool:=match l[i]?, l[i-1]? with|some d,some p=> !tJ r i d p|_,_=>false
theorem CP{r:wF}{l:List Datum}{i:Nat}{d p:Datum}(h1:l[i]? =some d)(h2:l[i-1]? =some p):uX r l i= !tJ r i d p:=by simp only[uX,h1,h2]
def dC(s:cu):Bool :=
 !((!aQ s.name|| !within s.type 1 8|| !within s.life 0 100000)|| !within s.data.length 1 8 ||
  (((rM s.type).single&&((s.data.length:Int) != 1))||(jz s.name&& !(rM s.type).Jw)))&&(List.range s.data.length).all (uX (rM s.type) s.data)
end NP
namespace Go.Proofs.YtodofogcincleaaGreatDoor
open NQ Go NP Go.RowKit
theorem IN{t:Int}(h:within t 1 8=true):0<=t/\t<9/\ ∃rest,uz.drop (t.toNat*8)=BS (rM t)++rest:=by
 simp[within]at h;refine⟨by omega,by omega,?_⟩;have:t=1\/t=2\/t=3\/t=4\/t=5\/t=6\/t=7\/t=8:=by omega
 rcases this with rfl|rfl|rfl|rfl|rfl|rfl|rfl|rfl <;> exact⟨_,rfl⟩
theorem ll(s:cu):NQ.Fn cx 37 [.agg (bN s)] (.d (.bool (dC s))) []:=by
 refine aK aV mixed Tryz.func37 (by kernel_rfl) rfl (ag rfl) ?_;conv=>whnf
 repeat' (first|(refine⟨_,_,Bp _ _ _,?_⟩;conv=>whnf)|(refine⟨_,_,lC _,?_⟩;conv=>whnf)|(refine af (λh=>?_) (λh=>?_) <;> (rw[h];conv=>whnf))|(refine aj rfl ?_;show AV.d (D.bool false)=_;(try simp only[an]at *);simp only[dC, *, if_true,if_false,aI];done)|fail)
 have ht:within s.type 1 8=true:=by simp_all
 obtain⟨t1,t2,rest,hrest⟩:=IN ht;refine⟨t1,t2,?_⟩;show gQ (some (AV.d (.ptr (uz.drop (s.type.toNat*8))))) _
 rw[hrest];generalize hr:rM s.type=r
 conv=>whnf
 repeat' (first|(refine⟨_,_,sZ _,?_⟩;conv=>whnf)|(refine af (λh=>?_) (λh=>?_) <;> (rw[h];conv=>whnf))|(refine aj rfl ?_;show AV.d (D.bool false)=_;(try simp only[an]at *);simp only[dC, *, if_true,if_false,aI];done)|fail)
 all_goals
  have hn:s.data.length<=8:=by simp[within]at *; omega
  have hyes:dC s=(List.range s.data.length).all (uX r s.data):=by
   simp only[an]at *;simp only[dC, *, if_true,if_false,aI]
  refine⟨Nat,λk=>⟨[(1,.ptr 1 0),(3,.ptr 3 0),(50,.d (.slice 3 (s.data.map aG))),(51,.d (.int .i64 ((s.data.map aG).length:Int))),(52,.d (.int .i64 k))],[(1,.box ((bN s).map .d)),(3,.box ((BS r).map .d))]⟩,
   λk=>k<=s.data.length/\(List.range k).all (uX r s.data)=true,λk=>s.data.length-k,⟨0,⟨by omega,rfl⟩,aC.keep ⟨ae,ae,ae,ae,ae,trivial⟩ ⟨ae,⟨(by first|rfl|(show some (Blk.box [_,_,_,_,_,_,_,_])=_;simp only[BS,List.map_cons,List.map_nil, *])),rfl⟩,trivial⟩⟩,λk ⟨hk,hall⟩=>?_⟩
  conv=>whnf
  refine af (λh1=>?_) (λh1=>?_) <;> (rw[h1];conv=>whnf)
  . have hlt:k<s.data.length:=by simp at h1;omega
    obtain⟨g,hg⟩:∃g,s.data[k]? =some g:=⟨_,ai hlt⟩
    obtain⟨p,hp⟩:∃p,s.data[k-1]? =some p:=⟨_,ai (by omega)⟩
    have hat:=CP (r:=r) hg hp;have hno:uX r s.data k=false->dC s=false:=λhh=>by rw[hyes,cS hlt hh]
    refine⟨aw k,aG g,aB hg,?_⟩
    conv=>whnf
    repeat' (first
     |(refine⟨(by kernel_rfl:bE _ _=true),?_⟩;conv=>whnf)
     |(refine⟨_,_,BE r g,?_⟩;conv=>whnf)
     |(refine⟨_,_,zC p g,?_⟩;conv=>whnf)
     |(refine af (λh=>?_) (λh=>?_) <;> (rw[h];conv=>whnf))
     |(refine⟨(lG (by assumption) (by omega)).1,aG p,kr (by assumption) (by omega) hp,?_⟩;conv=>whnf)
     |fail)
    all_goals first
     |(refine aj rfl ?_;show AV.d (D.bool false)=_;rw[hno (by rw[hat];simp only[tJ, *, if_true,if_false,aI])])
     |(refine⟨k+1,⟨by omega,?_⟩,by(show s.data.length-(k+1)<s.data.length-k;omega),aC.keep ⟨ae,ae,ae,ae,⟨ao (by omega),rfl⟩,trivial⟩ ⟨ae,ae,trivial⟩⟩;rw[di,hall,hat];simp only[tJ, *, if_true,if_false,aI])
     |fail
  . refine aj rfl ?_;obtain rfl:k=s.data.length:=by simp at h1;omega
    show AV.d (D.bool true)=_
    rw[hyes,hall]
end Go.Proofs.YtodofogcincleaaGreatDoor
namespace NP
open NQ Go
def pU(a:Bs)(s:Int)(b:Bs)(t:Int):Int:=if a=b then cY s t else(dW a b).1
def fits(t:Int)(ap:Bool):Bool:=if t=3\/t=6 then !ap else if t=4\/t=7 then ap else true
def yP(i:Nat)(apex:Bs)(g f p:Sig):Bool :=
 !(g.zone==apex)||decide (g.key<1)||decide (g.key>1000000)||decide (g.alg<1)||decide (g.alg>3)||(decide (g.since<0)||decide (g.since>g.till)||decide (g.till>20000000)) ||
  (decide ((i:Int)>0)&&(g.since != f.since||g.till != f.till||decide (g.key<=p.key)))
def vy(l:List Sig)(apex:Bs)(i:Nat):Bool :=
 match l[i]?, l[0]?, l[i-1]? with
 |some g,some f,some p=> !yP i apex g f p
 |_,_,_=>false
theorem Oh{l:List Sig}{apex:Bs}{k:Nat}{g f p:Sig}(hg:l[k]? =some g)(hf:l[0]? =some f)(hp:l[k-1]? =some p):vy l apex k= !yP k apex g f p:=by
 simp only[vy,hg,hf,hp]
def ku(l:List Sig)(apex:Bs):Bool:= !decide ((l.length:Int)>6)&&(List.range l.length).all (vy l apex)
end NP
namespace Go.Proofs.YtodofogcincleaaGreatDoor
open NQ Go NP Go.RowKit
theorem oV(a:Bs)(s:Int)(b:Bs)(t:Int):NQ.Fn cx 143 [.str a,.int .i64 s,.str b,.int .i64 t] (.d (.int .i64 (pU a s b t))) []:=by
 refine aK aV mixed Tryz.func143 (by kernel_rfl) rfl (ag rfl) ?_;conv=>whnf
 repeat' (first|(refine af (λh=>?_) (λh=>?_) <;> (rw[h];conv=>whnf))|(refine⟨_,_,xq _ _,?_⟩;conv=>whnf)|(refine⟨_,_,kg _ _,?_⟩;conv=>whnf)|fail)
 all_goals (refine aj rfl ?_;simp_all [D.dv,pU])
theorem EX(t:Int)(ap:Bool):NQ.Fn cx 145 [.int .i64 t,.bool ap] (.d (.bool (fits t ap))) []:=by
 refine aK aV mixed Tryz.func145 (by kernel_rfl) rfl (ag rfl) ?_;conv=>whnf
 repeat' (first|(refine af (λh=>?_) (λh=>?_) <;> (rw[h];conv=>whnf))|fail)
 all_goals (refine aj rfl ?_;simp_all [D.dv,fits])
theorem KA(l:List Sig)(apex:Bs):NQ.Fn cx 146 [.slice 6 (l.map mE),.str apex] (.d (.bool (ku l apex))) []:=by
 refine aK aV mixed Tryz.func146 (by kernel_rfl) rfl (ag rfl) ?_;conv=>whnf
 refine af (λh=>?_) (λh=>?_) <;> (rw[h];conv=>whnf)
 . (refine aj rfl ?_;show AV.d (D.bool false)=_;(try simp only[an]at *);simp only[ku, *, if_true,if_false,aI];done)
 . have hl:l.length<=6:=by simp at h;omega
   have hyes:ku l apex=(List.range l.length).all (vy l apex):=by
    simp only[an]at h;simp only[ku,h,if_true,if_false,aI]
   refine⟨Nat,λk=>⟨[(0,.d (.slice 6 (l.map mE))),(1,.d (.str apex)),(10,.d (.slice 6 (l.map mE))),(11,.d (.int .i64 ((l.map mE).length:Int))),(12,.d (.int .i64 k))],[]⟩,λk=>k<=l.length/\(List.range k).all (vy l apex)=true,λk=>l.length-k,⟨0,⟨by omega,rfl⟩,aC.keep ⟨ae,ae,ae,ae,ae,trivial⟩ trivial⟩,λk ⟨hk,hall⟩=>?_⟩
   conv=>whnf
   refine af (λh1=>?_) (λh1=>?_) <;> (rw[h1];conv=>whnf)
   . have hlt:k<l.length:=by simp at h1;omega
     obtain⟨g,hg⟩:∃g,l[k]? =some g:=⟨_,ai hlt⟩
     obtain⟨f,hf⟩:∃f,l[0]? =some f:=⟨_,ai (by omega)⟩
     obtain⟨p,hp⟩:∃p,l[k-1]? =some p:=⟨_,ai (by omega)⟩
     have hat:=Oh (apex:=apex) hg hf hp;have hno:vy l apex k=false->ku l apex=false:=λhh=>by rw[hyes,cS hlt hh]
     refine⟨aw k,mE g,aB hg,?_⟩
     conv=>whnf
     repeat' (first
      |(refine af (λh=>?_) (λh=>?_) <;> (rw[h];conv=>whnf))
      |(refine⟨(by kernel_rfl:bE _ _=true),?_⟩;conv=>whnf)
      |(refine⟨(by decide:(0:Int)<=0),mE f,aB hf,?_⟩;conv=>whnf)
      |(refine⟨(lG (by assumption) (by omega)).1,mE p,kr (by assumption) (by omega) hp,?_⟩;conv=>whnf)
      |fail)
     all_goals first
      |(refine aj rfl ?_;show AV.d (D.bool false)=_;rw[hno (by rw[hat];simp only[yP, *, if_true,if_false,aI])])
      |(refine⟨k+1,⟨by omega,?_⟩,by(show l.length-(k+1)<l.length-k;omega),aC.keep ⟨ae,ae,ae,ae,⟨ao (by omega),rfl⟩,trivial⟩ trivial⟩;rw[di,hall,hat];simp only[yP, *, if_true,if_false,aI])
      |fail
   . refine aj rfl ?_;obtain rfl:k=l.length:=by simp at h1;omega
     show AV.d (D.bool true)=_
     rw[hyes,hall]
theorem CZ(s:Signed)(q:dq):NQ.Fn cx 206 [.agg (ak s),.agg (nK q)] (.d (.int .i64 (pU s.set.name s.set.type q.name q.type))) []:=by
 refine aK aV mixed Tryz.func206 (by kernel_rfl) rfl (ag rfl) ?_;conv=>whnf
 (refine⟨_,_,oV _ _ _ _,?_⟩;conv=>whnf)
 exact aj rfl rfl
end Go.Proofs.YtodofogcincleaaGreatDoor
namespace NP
open NQ Go
def plc(s:Signed)(q:dq):Int:=pU s.set.name s.set.type q.name q.type
def Split(l:List Signed)(q:dq)(c:Nat):Prop:=c<=l.length/\(∀i s,l[i]? =some s->i<c->plc s q<0)/\(∀i s,l[i]? =some s->c<=i->0<=plc s q)
def foundAt(l:List Signed)(q:dq)(c:Nat):Bool:=match l[c]? with|some s=>plc s q==0|none=>false
theorem KT{i j:Nat}(h:i+j<=1000000000):IntKind.i64.wrap ((IntKind.u64.wrap (IntKind.i64.wrap ((i:Int)+(j:Int)))).fdiv (2 ^ min (Int.toNat 1) IntKind.u64.bits))=(((i+j) / 2:Nat):Int):=by
 rw[show((2:Int) ^ min (Int.toNat 1) IntKind.u64.bits)=2 from rfl];have h1:IntKind.i64.wrap ((i:Int)+(j:Int))=((i+j:Nat):Int):=by rw[wrap_i64 (by omega) (by omega)];omega
 have h2:IntKind.u64.wrap ((i+j:Nat):Int)=((i+j:Nat):Int):=by simp[IntKind.wrap,IntKind.signed,IntKind.bits];omega
 rw[h1,h2,Int.fdiv_eq_ediv_of_nonneg _ (by decide),wrap_i64 (by omega) (by omega)];omega
end NP
namespace Go.Proofs.YtodofogcincleaaGreatDoor
open NQ Go NP Go.RowKit
theorem Lp(l:List Signed)(q:dq)(c:Nat)(hl:l.length<=100000)(hc:Split l q c) :
 NQ.Fn cx 205 [.slice 5 (l.map ak),.agg (nK q),.fn 206 [] []] (.tuple [.d (.int .i64 c),.d (.bool (foundAt l q c))]) []:=by
 refine aK aV mixed Tryz.func205 (by kernel_rfl) rfl (ag rfl) ?_;conv=>whnf
 refine⟨Nat×Nat,λx=>⟨[(0,.d (.slice 5 (l.map ak))),(2,.d (.fn 206 [] [])),(4,.ptr 4 0),(8,.d (.int .i64 ((l.map ak).length:Int))),(9,.d (.int .i64 x.1)),(10,.d (.int .i64 x.2))],[(4,.box ((nK q).map .d))]⟩,
  λx=>x.1<=c/\c<=x.2/\x.2<=l.length,λx=>x.2-x.1,⟨(0,l.length),⟨by omega,hc.1,by omega⟩,aC.keep ⟨ae,ae,ae,ae,ae,⟨(by show AV.d (D.int _ _)=_;simp),rfl⟩,trivial⟩ ⟨ae,trivial⟩⟩,λ⟨i,j⟩ ⟨h1,h2,h3⟩=>?_⟩
 dsimp only at h1 h2 h3 ⊢
 conv=>whnf
 refine af (λh=>?_) (λh=>?_) <;> (rw[h];conv=>whnf)
 . have hij:i<j:=by simp at h;omega
   (refine⟨(by kernel_rfl:bE _ _=true),?_⟩;conv=>whnf)
   rw[KT (by omega)];obtain⟨s,hs⟩:∃s,l[(i+j) / 2]? =some s:=⟨_,ai (by omega)⟩
   refine⟨aw _,ak s,aB hs,?_⟩
   conv=>whnf
   (refine⟨_,_,CZ s q,?_⟩;conv=>whnf)
   refine af (λh=>?_) (λh=>?_) <;> (rw[h];conv=>whnf)
   . have hlt:(i+j) / 2<c:=by
      rcases Nat.lt_or_ge ((i+j) / 2) c with hh|hh
      . exact hh
      . have:=hc.2.2 _ s hs hh;simp[plc]at h this;omega
     exact⟨((i+j) / 2+1,j),⟨by dsimp only;omega,h2,h3⟩,by dsimp only;omega,aC.keep ⟨ae,ae,ae,ae,⟨ao (by omega),rfl⟩,ae,trivial⟩ ⟨ae,trivial⟩⟩
   . have hge:c<=(i+j) / 2:=by
      rcases Nat.lt_or_ge ((i+j) / 2) c with hh|hh
      . have:=hc.2.1 _ s hs hh;simp[plc]at h this;omega
      . exact hh
     exact⟨(i,(i+j) / 2),⟨h1,hge,by dsimp only;omega⟩,by dsimp only;omega,aC.keep ⟨ae,ae,ae,ae,ae,ae,trivial⟩ ⟨ae,trivial⟩⟩
 . obtain rfl:i=c:=by simp at h;omega
   clear h
   (refine⟨(by kernel_rfl:bE _ _=true),?_⟩;conv=>whnf)
   refine af (λh=>?_) (λh=>?_) <;> (rw[h];conv=>whnf)
   . have hlt:i<l.length:=by simp at h;omega
     obtain⟨s,hs⟩:∃s,l[i]? =some s:=⟨_,ai hlt⟩
     refine⟨aw _,ak s,aB hs,?_⟩
     conv=>whnf
     (refine⟨_,_,CZ s q,?_⟩;conv=>whnf)
     refine aj rfl ?_;show AV.tuple [AV.d (.int .i64 i),AV.d (.bool _)]=_
     simp[foundAt,plc,hs]
   . refine aj rfl ?_;show AV.tuple [AV.d (.int .i64 i),AV.d (.bool _)]=_
     have:l[i]? =none:=by simp at h;simp;omega
     simp[foundAt,this]
theorem PG(z:aD)(q:dq)(c:Nat)(hl:z.sets.length<=100000)(hc:Split z.sets q c) :
 NQ.Fn cx 144 [.agg (aH z),.agg (nK q)] (.tuple [.d (.int .i64 c),.d (.bool (foundAt z.sets q c))]) []:=by
 refine aK aV mixed Tryz.func144 (by kernel_rfl) rfl (ag rfl) ?_;conv=>whnf
 (refine⟨_,_,Lp z.sets q c hl hc,?_⟩;conv=>whnf)
 exact aj rfl rfl
end Go.Proofs.YtodofogcincleaaGreatDoor
namespace NP
open NQ Go
def lj(apex:Bs)(i:Nat)(s p:Signed):Bool:= !dC s.set|| !(bo s.set.name apex).1||(!((i:Int)==0)&&decide (pU p.set.name p.set.type s.set.name s.set.type>=0))
def qo(z:aD)(i:Nat):Bool:=match z.sets[i]?, z.sets[i-1]? with|some s,some p=> !lj z.apex i s p|_,_=>false
theorem pz{z:aD}{i:Nat}{s p:Signed}(h1:z.sets[i]? =some s)(h2:z.sets[i-1]? =some p):qo z i= !lj z.apex i s p:=by simp only[qo,h1,h2]
def ordered(z:aD):Bool:= !((!aQ z.apex||jz z.apex)||decide ((z.sets.length:Int)>20000))&&(List.range z.sets.length).all (qo z)
theorem Gl{k:Nat}(h:((k:Int)==0)=false):decide ((k:Int)>0)=true:=by simp at h ⊢;omega
end NP
namespace Go.Proofs.YtodofogcincleaaGreatDoor
open NQ Go NP Go.RowKit
theorem FF(s:Bs):Go.Lib.hasPrefix s [42]=jz s:=by
 unfold Go.Lib.hasPrefix jz;cases s with
 |nil=>rfl
 |cons c t=>simp only[List.isPrefixOf,List.head?_cons];rw[Bool.eq_iff_iff];simp;exact eq_comm
theorem GO(s:Bs):NQ.Fn cx 95 [.str s,.str [42]] (.d (.bool (jz s))) []:=by
 refine dQ ⟨_,Tryz.func95,by kernel_rfl,by kernel_rfl⟩ rfl λw vs _ hsz hrep=>?_
 obtain⟨b,hb,rfl⟩:=eM (hrep 0 _ rfl);obtain⟨c,hc,hc'⟩:=eM (hrep 1 _ rfl);rw[vC hsz,hb,hc];refine(Tryz.strings_HasPrefix _ _ _).mono ?_;rintro e w' ⟨rfl,rfl⟩;rw[hc',FF];exact⟨_,rfl,Below.refl _ _,.eF _⟩
theorem IC(z:aD):NQ.Fn cx 84 [.agg (aH z)] (.d (.bool (ordered z))) []:=by
 refine aK aV mixed Tryz.func84 (by kernel_rfl) rfl (ag rfl) ?_;conv=>whnf
 repeat' (first|(refine⟨_,_,lC _,?_⟩;conv=>whnf)|(refine⟨_,_,GO _,?_⟩;conv=>whnf)|(refine af (λh=>?_) (λh=>?_) <;> (rw[h];conv=>whnf))|(refine aj rfl ?_;show AV.d (D.bool false)=_;(try simp only[an]at *);simp only[ordered, *, if_true,if_false,aI];done)|fail)
 have hn:z.sets.length<=20000:=by simp at *; omega
 have hyes:ordered z=(List.range z.sets.length).all (qo z):=by
  simp only[an]at *;simp only[ordered, *, if_true,if_false,aI]
 refine⟨Nat,λk=>⟨[(1,.ptr 1 0),(28,.d (.slice 5 (z.sets.map ak))),(29,.d (.int .i64 ((z.sets.map ak).length:Int))),(30,.d (.int .i64 k))],[(1,.box ((aH z).map .d))]⟩,
  λk=>k<=z.sets.length/\(List.range k).all (qo z)=true,λk=>z.sets.length-k,⟨0,⟨by omega,rfl⟩,aC.keep ⟨ae,ae,ae,ae,trivial⟩ ⟨ae,trivial⟩⟩,λk ⟨hk,hall⟩=>?_⟩
 conv=>whnf
 refine af (λh1=>?_) (λh1=>?_) <;> (rw[h1];conv=>whnf)
 . have hlt:k<z.sets.length:=by simp at h1;omega
   obtain⟨s,hs⟩:∃s,z.sets[k]? =some s:=⟨_,ai hlt⟩
   obtain⟨p,hp⟩:∃p,z.sets[k-1]? =some p:=⟨_,ai (by omega)⟩
   have hat:=pz hs hp;have hno:qo z k=false->ordered z=false:=λhh=>by rw[hyes,cS hlt hh]
   refine⟨aw k,ak s,aB hs,?_⟩
   conv=>whnf
   repeat' (first
    |(refine⟨_,_,ll s.set,?_⟩;conv=>whnf)
    |(refine⟨_,_,mK _ _,?_⟩;conv=>whnf)
    |(refine⟨_,_,oV _ _ _ _,?_⟩;conv=>whnf)
    |(refine af (λh=>?_) (λh=>?_) <;> (rw[h];conv=>whnf))
    |(refine⟨(by kernel_rfl:bE _ _=true),?_⟩;conv=>whnf)
    |(refine⟨(lG (Gl (by assumption)) (by omega)).1,ak p,kr (Gl (by assumption)) (by omega) hp,?_⟩;conv=>whnf)
    |fail)
   all_goals first
    |(refine aj rfl ?_;show AV.d (D.bool false)=_;rw[hno (by rw[hat];simp only[lj, *, if_true,if_false,aI])])
    |(refine⟨k+1,⟨by omega,?_⟩,by(show z.sets.length-(k+1)<z.sets.length-k;omega),aC.keep ⟨ae,ae,ae,⟨ao (by omega),rfl⟩,trivial⟩ ⟨ae,trivial⟩⟩;rw[di,hall,hat];simp only[lj, *, if_true,if_false,aI])
    |fail
 . refine aj rfl ?_;obtain rfl:k=z.sets.length:=by simp at h1;omega
   show AV.d (D.bool true)=_
   rw[hyes,hall]
end Go.Proofs.YtodofogcincleaaGreatDoor
namespace NP
open NQ Go
def pY(z:aD)(i:Nat):Bool:=match z.sets[i]? with|some s=>fits s.set.type (s.set.name==z.apex)|none=>false
def oa(has:Int->Bool)(z:aD):Bool:=has 4&&has 2&&(List.range z.sets.length).all (pY z)
end NP
namespace Go.Proofs.YtodofogcincleaaGreatDoor
open NQ Go NP Go.RowKit
theorem Cn(z:aD)(hn:z.sets.length<=100000)(pos:Int->Nat)(has:Int->Bool)(hf:∀t,NQ.Fn cx 144 [.agg (aH z),.agg (nK ⟨z.apex,t⟩)] (.tuple [.d (.int .i64 (pos t)),.d (.bool (has t))]) []) :
 NQ.Fn cx 85 [.agg (aH z)] (.d (.bool (oa has z))) []:=by
 refine aK aV mixed Tryz.func85 (by kernel_rfl) rfl (ag rfl) ?_;conv=>whnf
 refine⟨Nat,λk=>⟨[(1,.ptr 1 0),(9,.own 9),(10,.d (.int .i64 2)),(11,.d (.int .i64 k))],[(1,.box ((aH z).map .d)),(9,.row 3 1 [[.int .i64 4],[.int .i64 2]])]⟩,
  λk=>k<=2/\(0<k->has 4=true)/\(1<k->has 2=true),λk=>2-k,⟨0,⟨by omega,by omega,by omega⟩,aC.keep ⟨ae,ae,ae,ae,trivial⟩ ⟨ae,ae,trivial⟩⟩,λk ⟨hk,ha,hb⟩=>?_⟩
 conv=>whnf
 refine af (λh1=>?_) (λh1=>?_) <;> (rw[h1];conv=>whnf)
 . have hlt:k<2:=by simp at h1;omega
   have hk2:k=0\/k=1:=by omega
   rcases hk2 with rfl|rfl
   . refine⟨by decide,by decide,?_⟩
     conv=>whnf
     refine⟨[.int .i64 4],rfl,?_⟩
     conv=>whnf
     (refine⟨_,_,hf 4,?_⟩;conv=>whnf)
     refine af (λh=>?_) (λh=>?_) <;> (rw[h];conv=>whnf)
     . refine aj rfl ?_;have h4:has 4=false:=by simpa using h
       simp[D.dv,oa,h4]
     . exact⟨1,⟨by omega,λ_=>by simpa using h,by omega⟩,by decide,aC.keep ⟨ae,ae,ae,⟨ao (by omega),rfl⟩,trivial⟩ ⟨ae,ae,trivial⟩⟩
   . refine⟨by decide,by decide,?_⟩
     conv=>whnf
     refine⟨[.int .i64 2],rfl,?_⟩
     conv=>whnf
     (refine⟨_,_,hf 2,?_⟩;conv=>whnf)
     refine af (λh=>?_) (λh=>?_) <;> (rw[h];conv=>whnf)
     . refine aj rfl ?_;have h4:has 2=false:=by simpa using h
       simp[D.dv,oa,h4]
     . exact⟨2,⟨by omega,λ_=>ha (by omega),λ_=>by simpa using h⟩,by decide,aC.keep ⟨ae,ae,ae,⟨ao (by omega),rfl⟩,trivial⟩ ⟨ae,ae,trivial⟩⟩
 . have h2:k=2:=by simp at h1;omega
   have h4:=ha (by omega);have h5:=hb (by omega);have hyes:oa has z=(List.range z.sets.length).all (pY z):=by simp only[oa,h4,h5,if_true,if_false,aI]
   clear h1 ha hb;refine⟨Nat,λk=>⟨[(1,.ptr 1 0),(30,.d (.slice 5 (z.sets.map ak))),(31,.d (.int .i64 ((z.sets.map ak).length:Int))),(32,.d (.int .i64 k))],[(1,.box ((aH z).map .d))]⟩,
    λk=>k<=z.sets.length/\(List.range k).all (pY z)=true,λk=>z.sets.length-k,⟨0,⟨by omega,rfl⟩,aC.keep ⟨ae,ae,ae,ae,trivial⟩ ⟨ae,trivial⟩⟩,λk ⟨hk,hall⟩=>?_⟩
   conv=>whnf
   refine af (λh1=>?_) (λh1=>?_) <;> (rw[h1];conv=>whnf)
   . have hlt:k<z.sets.length:=by simp at h1;omega
     obtain⟨s,hs⟩:∃s,z.sets[k]? =some s:=⟨_,ai hlt⟩
     have hat:pY z k=fits s.set.type (s.set.name==z.apex):=by simp only[pY,hs]
     have hno:pY z k=false->oa has z=false:=λhh=>by rw[hyes,cS hlt hh]
     refine⟨aw k,ak s,aB hs,?_⟩
     conv=>whnf
     repeat' (first|(refine⟨_,_,EX _ _,?_⟩;conv=>whnf)|(refine af (λh=>?_) (λh=>?_) <;> (rw[h];conv=>whnf))|(refine⟨(by kernel_rfl:bE _ _=true),?_⟩;conv=>whnf)|fail)
     all_goals first
      |(refine aj rfl ?_;show AV.d (D.bool false)=_;rw[hno (by rw[hat];simp_all)])
      |(refine⟨k+1,⟨by omega,?_⟩,by(show z.sets.length-(k+1)<z.sets.length-k;omega),aC.keep ⟨ae,ae,ae,⟨ao (by omega),rfl⟩,trivial⟩ ⟨ae,trivial⟩⟩;rw[di,hall,hat];simp_all)
      |fail
   . refine aj rfl ?_;obtain rfl:k=z.sets.length:=by simp at h1;omega
     show AV.d (D.bool true)=_
     rw[hyes,hall]
end Go.Proofs.YtodofogcincleaaGreatDoor
namespace NP
open NQ Go
def ba(s:Bs):List D:=[.str s]
def qQ(z:aD)(b:List Bs):List D:=[.str z.apex,.slice 5 (z.sets.map ak),.slice 1 (b.map ba)]
def tm(n i:Nat)(s p x:Signed):Bool :=
 !(s.set.type != 3)&&((decide ((i:Int)>0)&&(p.set.name==s.set.name))||(decide (((i:Nat):Int)+1<(n:Int))&&(x.set.name==s.set.name)&&(x.set.type != 8)))
def nh(z:aD)(i:Nat):Bool :=
 match z.sets[i]? with
 |some s=> !tm z.sets.length i s ((z.sets[i-1]?).getD s) ((z.sets[i+1]?).getD s)
 |none=>false
def aliases(z:aD):Bool:=(List.range z.sets.length).all (nh z)
def oW(s:Signed)(b:Bs):Bool :=
 if (b==[])=true then s.set.type==6
 else if (b==s.set.name)=true then(s.set.type != 2)&&(s.set.type != 6)&&(s.set.type != 8)&&(s.set.type != 1)
 else s.set.type != 1
def cutAt(z:aD)(b:List Bs)(i:Nat):Bool:=match z.sets[i]?, b[i]? with|some s,some x=> !oW s x|_,_=>false
def sf(z:aD)(b:List Bs):Bool:=(List.range z.sets.length).all (cutAt z b)
def pD(s:Signed)(b:Bs):Bool:=(!(b==[])&&((s.set.type==2)||(s.set.type==1)))&&decide ((s.sigs.length:Int)>0)
def sL(z:aD)(b:List Bs)(i:Nat):Bool:=match z.sets[i]?, b[i]? with|some s,some x=> !pD s x|_,_=>false
def sM(z:aD)(b:List Bs):Bool:=(List.range z.sets.length).all (sL z b)
def nk(z:aD)(i:Nat):Bool:=match z.sets[i]? with|some s=>ku s.sigs z.apex|none=>false
def pZ(z:aD):Bool:=(List.range z.sets.length).all (nk z)
theorem wrap_add{k:Nat}(hk:k<=4611686018427387904):IntKind.i64.wrap ((k:Int)+1)=(k:Int)+1:=wrap_i64 (by omega) (by omega)
theorem NL{α:Type}{f:α->List D}{l:List α}{k:Nat}{g:α}(hg:l[k+1]? =some g):(l.map f)[((k:Int)+1).toNat]? =some (f g):=by
 rw[show((k:Int)+1).toNat=k+1 by omega];simp[hg]
end NP
namespace Go.Proofs.YtodofogcincleaaGreatDoor
open NQ Go NP Go.RowKit
theorem zr(z:aD)(b:List Bs)(hn:z.sets.length<=100000):NQ.Fn cx 87 [.agg (qQ z b)] (.d (.bool (aliases z))) []:=by
 refine aK aV mixed Tryz.func87 (by kernel_rfl) rfl (ag rfl) ?_;conv=>whnf
 have hyes:aliases z=(List.range z.sets.length).all (nh z):=rfl;refine⟨Nat,λk=>⟨[(1,.ptr 1 0),(8,.d (.slice 5 (z.sets.map ak))),(9,.d (.int .i64 ((z.sets.map ak).length:Int))),(10,.d (.int .i64 k))],[(1,.box ((qQ z b).map .d))]⟩,λk=>k<=z.sets.length/\(List.range k).all (nh z)=true,λk=>z.sets.length-k,⟨0,⟨by omega,rfl⟩,aC.keep ⟨ae,ae,ae,ae,trivial⟩ ⟨ae,trivial⟩⟩,λk ⟨hk,hall⟩=>?_⟩;(conv=>whnf);refine af (λh1=>?_) (λh1=>?_) <;> (rw[h1];conv=>whnf)
 . have hlt:k<z.sets.length:=by simp at h1;omega
   obtain⟨s,hs⟩:∃s,z.sets[k]? =some s:=⟨_,ai hlt⟩
   obtain⟨p,hp⟩:∃p,z.sets[k-1]? =some p:=⟨_,ai (by omega)⟩
   obtain⟨x,hx⟩:∃x,x=(z.sets[k+1]?).getD s:=⟨_,rfl⟩
   have hat:nh z k= !tm z.sets.length k s p x:=by simp only[nh,hs,hp,Option.getD_some, <- hx]
   have hno:nh z k=false->aliases z=false:=λhh=>by rw[hyes,cS hlt hh]
   have hxx:k+1<z.sets.length->z.sets[k+1]? =some x:=λhq=>by rw[hx,ai hq];rfl
   clear hx;have hw:=wrap_add (k:=k) (by omega);refine⟨aw k,ak s,aB hs,?_⟩
   conv=>whnf
   repeat' (first
    |(refine⟨(by kernel_rfl:bE _ _=true),?_⟩;conv=>whnf)
    |(refine aj rfl ?_;show AV.d (D.bool false)=_;(try simp only[an]at *);rw[hno (by rw[hat];simp only[tm, *, if_true,if_false,aI])];done)
    |(refine⟨k+1,⟨by omega,?_⟩,by(show z.sets.length-(k+1)<z.sets.length-k;omega),aC.keep ⟨ae,ae,ae,⟨ao (by omega),rfl⟩,trivial⟩ ⟨ae,trivial⟩⟩;rw[di,hall,hat];((try simp only[an]at *);simp only[tm, *, if_true,if_false,aI];done))
    |(rw[hw];(refine af (λh=>?_) (λh=>?_) <;> (rw[h];conv=>whnf)))
    |(refine af (λh=>?_) (λh=>?_) <;> (rw[h];conv=>whnf))
    |(refine⟨(lG (by assumption) (by omega)).1,ak p,kr (by assumption) (by omega) hp,?_⟩;conv=>whnf)
    |(rw[hw];refine⟨by omega,ak x,NL (by have hq:= ‹decide (((k:Nat):Int)+1<_)=true›;exact hxx (by simp at hq;omega)),?_⟩;conv=>whnf)
    |fail)
 . (refine aj rfl ?_;obtain rfl:k=z.sets.length:=(by simp at h1;omega);show AV.d (D.bool true)=_;rw[hyes,hall])
theorem ET(z:aD)(b:List Bs)(hn:z.sets.length<=100000)(hb:b.length=z.sets.length):NQ.Fn cx 88 [.agg (qQ z b)] (.d (.bool (sf z b))) []:=by
 refine aK aV mixed Tryz.func88 (by kernel_rfl) rfl (ag rfl) ?_;conv=>whnf
 have hyes:sf z b=(List.range z.sets.length).all (cutAt z b):=rfl;refine⟨Nat,λk=>⟨[(1,.ptr 1 0),(9,.d (.slice 5 (z.sets.map ak))),(10,.d (.int .i64 ((z.sets.map ak).length:Int))),(11,.d (.int .i64 k))],[(1,.box ((qQ z b).map .d))]⟩,λk=>k<=z.sets.length/\(List.range k).all (cutAt z b)=true,λk=>z.sets.length-k,⟨0,⟨by omega,rfl⟩,aC.keep ⟨ae,ae,ae,ae,trivial⟩ ⟨ae,trivial⟩⟩,λk ⟨hk,hall⟩=>?_⟩;(conv=>whnf);refine af (λh1=>?_) (λh1=>?_) <;> (rw[h1];conv=>whnf)
 . have hlt:k<z.sets.length:=by simp at h1;omega
   obtain⟨s,hs⟩:∃s,z.sets[k]? =some s:=⟨_,ai hlt⟩
   obtain⟨x,hx⟩:∃x,b[k]? =some x:=⟨_,ai (by omega)⟩
   have hat:cutAt z b k= !oW s x:=by simp only[cutAt,hs,hx]
   have hno:cutAt z b k=false->sf z b=false:=λhh=>by rw[hyes,cS hlt hh]
   refine⟨aw k,ak s,aB hs,?_⟩
   conv=>whnf
   repeat' (first
    |(refine⟨(by kernel_rfl:bE _ _=true),?_⟩;conv=>whnf)
    |(refine aj rfl ?_;show AV.d (D.bool false)=_;(try simp only[an]at *);rw[hno (by rw[hat];simp only[oW, *, if_true,if_false,aI])];done)
    |(refine⟨k+1,⟨by omega,?_⟩,by(show z.sets.length-(k+1)<z.sets.length-k;omega),aC.keep ⟨ae,ae,ae,⟨ao (by omega),rfl⟩,trivial⟩ ⟨ae,trivial⟩⟩;rw[di,hall,hat];((try simp only[an]at *);simp only[oW, *, if_true,if_false,aI];done))
    |(refine⟨aw k,ba x,aB hx,?_⟩;conv=>whnf)
    |(refine af (λh=>?_) (λh=>?_) <;> (rw[h];conv=>whnf))
    |fail)
 . (refine aj rfl ?_;obtain rfl:k=z.sets.length:=(by simp at h1;omega);show AV.d (D.bool true)=_;rw[hyes,hall])
theorem Fz(z:aD)(b:List Bs)(hn:z.sets.length<=100000)(hb:b.length=z.sets.length):NQ.Fn cx 89 [.agg (qQ z b)] (.d (.bool (sM z b))) []:=by
 refine aK aV mixed Tryz.func89 (by kernel_rfl) rfl (ag rfl) ?_;conv=>whnf
 have hyes:sM z b=(List.range z.sets.length).all (sL z b):=rfl;refine⟨Nat,λk=>⟨[(1,.ptr 1 0),(9,.d (.slice 5 (z.sets.map ak))),(10,.d (.int .i64 ((z.sets.map ak).length:Int))),(11,.d (.int .i64 k))],[(1,.box ((qQ z b).map .d))]⟩,λk=>k<=z.sets.length/\(List.range k).all (sL z b)=true,λk=>z.sets.length-k,⟨0,⟨by omega,rfl⟩,aC.keep ⟨ae,ae,ae,ae,trivial⟩ ⟨ae,trivial⟩⟩,λk ⟨hk,hall⟩=>?_⟩;(conv=>whnf);refine af (λh1=>?_) (λh1=>?_) <;> (rw[h1];conv=>whnf)
 . have hlt:k<z.sets.length:=by simp at h1;omega
   obtain⟨s,hs⟩:∃s,z.sets[k]? =some s:=⟨_,ai hlt⟩
   obtain⟨x,hx⟩:∃x,b[k]? =some x:=⟨_,ai (by omega)⟩
   have hat:sL z b k= !pD s x:=by simp only[sL,hs,hx]
   have hno:sL z b k=false->sM z b=false:=λhh=>by rw[hyes,cS hlt hh]
   refine⟨aw k,ak s,aB hs,?_⟩
   conv=>whnf
   repeat' (first
    |(refine⟨(by kernel_rfl:bE _ _=true),?_⟩;conv=>whnf)
    |(refine aj rfl ?_;show AV.d (D.bool false)=_;(try simp only[an]at *);rw[hno (by rw[hat];simp only[pD, *, if_true,if_false,aI])];done)
    |(refine⟨k+1,⟨by omega,?_⟩,by(show z.sets.length-(k+1)<z.sets.length-k;omega),aC.keep ⟨ae,ae,ae,⟨ao (by omega),rfl⟩,trivial⟩ ⟨ae,trivial⟩⟩;rw[di,hall,hat];((try simp only[an]at *);simp only[pD, *, if_true,if_false,aI];done))
    |(refine⟨aw k,ba x,aB hx,?_⟩;conv=>whnf)
    |(refine af (λh=>?_) (λh=>?_) <;> (rw[h];conv=>whnf))
    |fail)
 . (refine aj rfl ?_;obtain rfl:k=z.sets.length:=(by simp at h1;omega);show AV.d (D.bool true)=_;rw[hyes,hall])
theorem Dd(z:aD)(b:List Bs)(hn:z.sets.length<=100000):NQ.Fn cx 90 [.agg (qQ z b)] (.d (.bool (pZ z))) []:=by
 refine aK aV mixed Tryz.func90 (by kernel_rfl) rfl (ag rfl) ?_;conv=>whnf
 have hyes:pZ z=(List.range z.sets.length).all (nk z):=rfl;refine⟨Nat,λk=>⟨[(1,.ptr 1 0),(8,.d (.slice 5 (z.sets.map ak))),(9,.d (.int .i64 ((z.sets.map ak).length:Int))),(10,.d (.int .i64 k))],[(1,.box ((qQ z b).map .d))]⟩,λk=>k<=z.sets.length/\(List.range k).all (nk z)=true,λk=>z.sets.length-k,⟨0,⟨by omega,rfl⟩,aC.keep ⟨ae,ae,ae,ae,trivial⟩ ⟨ae,trivial⟩⟩,λk ⟨hk,hall⟩=>?_⟩;(conv=>whnf);refine af (λh1=>?_) (λh1=>?_) <;> (rw[h1];conv=>whnf)
 . have hlt:k<z.sets.length:=by simp at h1;omega
   obtain⟨s,hs⟩:∃s,z.sets[k]? =some s:=⟨_,ai hlt⟩
   have hat:nk z k= !(!ku s.sigs z.apex):=by simp only[nk,hs,LV]
   have hno:nk z k=false->pZ z=false:=λhh=>by rw[hyes,cS hlt hh]
   refine⟨aw k,ak s,aB hs,?_⟩
   conv=>whnf
   repeat' (first
    |(refine⟨(by kernel_rfl:bE _ _=true),?_⟩;conv=>whnf)
    |(refine aj rfl ?_;show AV.d (D.bool false)=_;(try simp only[an]at *);rw[hno (by rw[hat];simp only[nk, *, if_true,if_false,aI])];done)
    |(refine⟨k+1,⟨by omega,?_⟩,by(show z.sets.length-(k+1)<z.sets.length-k;omega),aC.keep ⟨ae,ae,ae,⟨ao (by omega),rfl⟩,trivial⟩ ⟨ae,trivial⟩⟩;rw[di,hall,hat];((try simp only[an]at *);simp only[nk, *, if_true,if_false,aI];done))
    |(refine⟨_,_,KA s.sigs z.apex,?_⟩;conv=>whnf)
    |(refine af (λh=>?_) (λh=>?_) <;> (rw[h];conv=>whnf))
    |fail)
 . (refine aj rfl ?_;obtain rfl:k=z.sets.length:=(by simp at h1;omega);show AV.d (D.bool true)=_;rw[hyes,hall])
end Go.Proofs.YtodofogcincleaaGreatDoor
namespace NP
open NQ Go
def iL(apex:Bs)(s:Signed):Bool:=(s.set.type==2)&& !(s.set.name==apex)
def jA(apex:Bs):List Signed->List (Bs×D)->List (Bs×D)
 |[],m=>m
 |s::t,m=>jA apex t (if iL apex s=true then bT s.set.name (.bool true) m else m)
def eT(apex:Bs)(l:List Signed)(n:Bs):Bool:=l.any λs=>iL apex s&&(s.set.name==n)
theorem oG(k n:Bs)(v:D):∀m,bg n (bT k v m)=if n=k then some v else bg n m
 |[]=>by simp only[bT,bg]
 |(k',v')::t=>by
  simp only[bT];by_cases h:k=k'
  . subst h;simp only[if_true,bg];by_cases h2:n=k <;> simp only[h2,if_true,if_false]
  . simp only[h,if_false,bg,oG k n v t];by_cases h2:n=k'
    . subst h2;have h3:¬n=k:=λe=>h e.symm
      simp only[if_true,h3,if_false]
    . simp only[h2,if_false]
theorem vP(apex n:Bs):∀(l:List Signed) (m:List (Bs×D)),bg n (jA apex l m)=if eT apex l n=true then some (.bool true)else bg n m
 |[],m=>by simp[jA,eT]
 |s::t,m=>by
  rw[jA,vP apex n t];by_cases h:iL apex s=true
  . rw[if_pos h,oG];by_cases hn:n=s.set.name
    . subst hn;simp[eT,h]
    . have hn' :(s.set.name==n)=false:=by simpa using λe=>hn e.symm
      simp only[hn,if_false,eT,List.any_cons,h,hn',kD,ir]
  . have h' :iL apex s=false:=by simpa using h
    simp only[eT,List.any_cons,h',uR,ir,eH,if_false]
def jM(cut:Bs->Bool)(c n:Bs):Bs :=
 let c' :=if (!(c==[])&& !(bo n c).1)=true then[]else c
 if ((c' ==[])&&cut n)=true then n else c'
def bh(cut:Bs->Bool):Bs->List Signed->List Bs
 |_,[]=>[]
 |c,s::t=>jM cut c s.set.name::bh cut (jM cut c s.set.name) t
def cU(z:aD):List Bs:=bh (eT z.apex z.sets) [] z.sets
theorem tv(cut:Bs->Bool):∀(c:Bs) (l:List Signed),(bh cut c l).length=l.length
 |_,[]=>rfl
 |c,s::t=>by simp[bh,tv cut _ t]
theorem Qw(done:List Bs)(n:Nat)(c:Bs):(done++List.replicate (n+1) []).set done.length c=(done++[c])++List.replicate n []:=by
 rw[List.replicate_succ,List.set_append];simp
theorem vQ(apex:Bs)(s:Signed):∀(l:List Signed) (m:List (Bs×D)),jA apex (l++[s]) m=if iL apex s=true then bT s.set.name (.bool true) (jA apex l m)else jA apex l m
 |[],m=>rfl
 |x::t,m=>by rw[List.cons_append,jA,jA,vQ apex s t]
theorem bK{α:Type}{l:List α}{k:Nat}{x:α}(h:l[k]? =some x):l.take (k+1)=l.take k++[x]:=by
 rw[List.take_add_one,h];rfl
theorem La{b:Bool}(h:(!b)=false)(h' :b=false):False:=by subst h';cases h
end NP
namespace Go.Proofs.YtodofogcincleaaGreatDoor
open NQ Go NP Go.RowKit
theorem KP(z:aD)(hn:z.sets.length<=100000):NQ.Fn cx 86 [.agg (aH z)] (.agg ((qQ z (cU z)).map .d)) []:=by
 refine aK aV mixed Tryz.func86 (by kernel_rfl) rfl (ag rfl) ?_;conv=>whnf
 refine ⟨Nat, fun k => ⟨[(1, .ptr 1 0), (2, .ptr 2 0), (3, .omap 13), (16, .d (.slice 5 (z.sets.map ak))), (17, .d (.int .i64 ((z.sets.map ak).length : Int))), (18, .d (.int .i64 k))],
     [(1,.box ((aH z).map .d)),(2,.box [.d (.str []),.nil 5,.nil 1]),(13,.smap (jA z.apex (z.sets.take k) []))]⟩,
  λk=>k<=z.sets.length,λk=>z.sets.length-k,⟨0,by omega,aC.keep ⟨ae,ae,ae,ae,ae,ae,trivial⟩ ⟨ae,ae,ae,trivial⟩⟩,λk hk=>?_⟩
 conv=>whnf
 refine af (λh1=>?_) (λh1=>?_) <;> (rw[h1];conv=>whnf)
 . have hlt:k<z.sets.length:=by simp at h1;omega
   obtain⟨s,hs⟩:∃s,z.sets[k]? =some s:=⟨_,ai hlt⟩
   refine⟨aw k,ak s,aB hs,?_⟩
   conv=>whnf
   have hm:=vQ z.apex s (z.sets.take k) [];rw[<- bK hs]at hm
   repeat' (first
    |(refine⟨(by kernel_rfl:bE _ _=true),?_⟩;conv=>whnf)
    |(refine⟨k+1,hlt,by(show z.sets.length-(k+1)<z.sets.length-k;omega),aC.keep ⟨ae,ae,ae,ae,ae,⟨ao (by omega),rfl⟩,trivial⟩ ⟨ae,ae,⟨?_,rfl⟩,trivial⟩⟩;show some (Blk.smap _)=some (Blk.smap _);rw[hm];simp only[iL, *, if_true,if_false,aI];done)
    |(refine af (λh=>?_) (λh=>?_) <;> (rw[h];conv=>whnf))
    |fail)
 . obtain rfl:k=z.sets.length:=by simp at h1;omega
   (refine⟨(by kernel_rfl:bE _ _=true),?_⟩;conv=>whnf)
   refine⟨by omega,.inl rfl,by omega,by(simp only[an];omega),by(simp only[an];omega),?_⟩
   conv=>whnf
   refine ⟨Nat × Bs × List Bs, fun x => ⟨[(1, .ptr 1 0), (2, .ptr 2 0), (3, .omap 13), (6, .ptr 6 0), (7, .d (.str x.2.1)), (49, .d (.slice 5 (z.sets.map ak))), (50, .d (.int .i64 ((z.sets.map ak).length : Int))), (51, .d (.int .i64 x.1))],
       [(1,.box ((aH z).map .d)),(2,.box [.d (.str []),.nil 5,.nil 1]),(13,.smap (jA z.apex z.sets [])),(45,.row 9 1 ((x.2.2++List.replicate (z.sets.length-x.1) []).map ba) true),(6,.box [.d (.str z.apex),.d (.slice 5 (z.sets.map ak)),.own 45])]⟩,
    λx=>x.1<=z.sets.length/\x.2.2.length=x.1/\x.2.2++bh (eT z.apex z.sets) x.2.1 (z.sets.drop x.1)=cU z,λx=>z.sets.length-x.1,
    ⟨(0,[],[]),⟨by simp,rfl,rfl⟩,aC.keep ⟨ae,ae,ae,ae,ae,ae,ae,ae,trivial⟩ ⟨ae,ae,⟨by(show some (Blk.smap (jA z.apex (z.sets.take z.sets.length) []))=_;rw[List.take_length]),rfl⟩,⟨by(show some (Blk.row _ _ (List.replicate ((z.sets.map ak).length:Int).toNat _) true)=some (Blk.row _ _ _ true);simp[ba];done),rfl⟩,ae,trivial⟩⟩,?_⟩
   rintro⟨k,c,done⟩ ⟨hk,hd,hall⟩;simp only at hk hd hall
   conv=>whnf
   refine af (λh1=>?_) (λh1=>?_) <;> (rw[h1];conv=>whnf)
   . have hlt:k<z.sets.length:=by simp at h1;omega
     obtain⟨s,hs⟩:∃s,z.sets[k]? =some s:=⟨_,ai hlt⟩
     refine⟨aw k,ak s,aB hs,?_⟩
     conv=>whnf
     have hdr:z.sets.drop k=s::z.sets.drop (k+1):=by
      obtain⟨hl,he⟩:=aq.mp hs;rw[List.drop_eq_getElem_cons hlt,he]
     have hrow:k<((done++List.replicate (z.sets.length-k) []).map ba).length:=by simp;omega
     have hrep:List.replicate (z.sets.length-k) ([]:Bs)=List.replicate ((z.sets.length-(k+1))+1) []:=by congr 1;omega
     have hset:∀c',((done++List.replicate (z.sets.length-k) []).map ba).set k (ba c')=((done++[c'])++List.replicate (z.sets.length-(k+1)) []).map ba:=λc' =>by
      rw[hrep, <- Qw done _ c',List.map_set,hd]
     rw[hdr,bh]at hall;have hgo:∀c',jM (eT z.apex z.sets) c s.set.name=c' ->(done++[c'])++bh (eT z.apex z.sets) c' (z.sets.drop (k+1))=cU z:=λc' e=>by
      rw[<- hall,e,List.append_assoc];rfl
     have hf:=vP z.apex s.set.name z.sets [];clear hall hk;obtain⟨q,hq⟩:∃q,eT z.apex z.sets s.set.name=q:=⟨_,rfl⟩
     rw[hq]at hf;have e0:(⟨#[]⟩:ByteArray).data.toList=[]:=rfl;have hrk:((done++List.replicate (z.sets.length-k) []).map ba)[k]? =some (ba []):=by
      rw[aM,bW (by omega),List.getElem?_replicate,if_pos (by omega)];rfl
     repeat' (first
      |(refine⟨_,_,mK _ _,?_⟩;conv=>whnf)
      |(refine⟨(by kernel_rfl:bE _ _=true),?_⟩;conv=>whnf)
      |(refine af (λh=>?_) (λh=>?_) <;> (rw[h];conv=>whnf))
      |(rcases q with _|_ <;> ((try simp only[eH,if_false,if_true,bg]at hf);rw[hf];conv=>whnf))
      |exact(La (b:=c==[]) (by assumption) (by assumption)).elim
      |(refine⟨aw k,hrow,?_⟩;conv=>whnf)
      |(refine⟨_,hrk,?_⟩;conv=>whnf)
      |(refine⟨(k+1,c,done++[c]),⟨hlt,by simp[hd],hgo _ (by(try simp only[e0]at *);simp only[jM, *, if_true,if_false,aI,beq_self_eq_true];done)⟩,by(show z.sets.length-(k+1)<z.sets.length-k;omega),aC.keep ⟨ae,ae,ae,ae,ae,ae,ae,⟨ao (by omega),rfl⟩,trivial⟩ ⟨ae,ae,ae,⟨by(show some (Blk.row _ _ (List.set _ k (ba (c))) true)=some (Blk.row _ _ _ true);rw[hset]),rfl⟩,ae,trivial⟩⟩;done)
      |(refine⟨(k+1,[],done++[[]]),⟨hlt,by simp[hd],hgo _ (by(try simp only[e0]at *);simp only[jM, *, if_true,if_false,aI,beq_self_eq_true];done)⟩,by(show z.sets.length-(k+1)<z.sets.length-k;omega),aC.keep ⟨ae,ae,ae,ae,ae,ae,ae,⟨ao (by omega),rfl⟩,trivial⟩ ⟨ae,ae,ae,⟨by(show some (Blk.row _ _ (List.set _ k (ba ([]))) true)=some (Blk.row _ _ _ true);rw[hset]),rfl⟩,ae,trivial⟩⟩;done)
      |(refine⟨(k+1,s.set.name,done++[s.set.name]),⟨hlt,by simp[hd],hgo _ (by(try simp only[e0]at *);simp only[jM, *, if_true,if_false,aI,beq_self_eq_true];done)⟩,by(show z.sets.length-(k+1)<z.sets.length-k;omega),aC.keep ⟨ae,ae,ae,ae,ae,ae,ae,⟨ao (by omega),rfl⟩,trivial⟩ ⟨ae,ae,ae,⟨by(show some (Blk.row _ _ (List.set _ k (ba (s.set.name))) true)=some (Blk.row _ _ _ true);rw[hset]),rfl⟩,ae,trivial⟩⟩;done)
      |fail)
   . refine aj rfl ?_;obtain rfl:k=z.sets.length:=by simp at h1;omega
     simp only[List.drop_length,bh,List.append_nil]at hall;show AV.agg [_,_,AV.d (.slice 1 ((done++List.replicate (z.sets.length-z.sets.length) []).map ba))]=_
     rw[Nat.sub_self,List.replicate_zero,List.append_nil,hall];rfl
end Go.Proofs.YtodofogcincleaaGreatDoor
namespace NP
open NQ Go
theorem rZ:iy cY where
 range := fun a b => by unfold cY; repeat' split
                        all_goals omega
 zero := fun a b => by unfold cY; repeat' split
                       all_goals omega
 anti := fun a b => by unfold cY; repeat' split
                       all_goals omega
 lt := fun a b c => by unfold cY; repeat' split
                       all_goals omega
theorem cd:iy bB where
 range:=λa b=>mP.range _ _
 zero:=λa b=>⟨λh=>wJ ((mP.zero _ _).1 h),λh=>by subst h;exact(mP.zero _ _).2 rfl⟩
 anti:=λa b=>mP.anti _ _
 lt:=λa b c=>mP.lt _ _ _
def lex{α β:Type}(c:α->α->Int)(e:β->β->Int)(p q:α×β):Int:=if c p.1 q.1=0 then e p.2 q.2 else c p.1 q.1
theorem zS{α β:Type}{c:α->α->Int}{e:β->β->Int}(hc:iy c)(he:iy e):iy (lex c e) where
 range:=λa b=>by unfold lex;split;exact he.range _ _;exact hc.range _ _
 zero:=λa b=>by
  unfold lex;split
  . rename_i h;rw[he.zero,Prod.ext_iff];exact⟨λk=>⟨(hc.zero _ _).1 h,k⟩,λk=>k.2⟩
  . rename_i h;exact⟨λk=>absurd k h,λk=>absurd ((hc.zero _ _).2 (by rw[k])) h⟩
 anti:=λa b=>by
  unfold lex;rw[hc.anti a.1 b.1];by_cases h:c a.1 b.1=0
  . rw[if_pos h,if_pos (by omega),he.anti]
  . rw[if_neg h,if_neg (by omega)]
 lt:=λa b d=>by
  unfold lex;intro h1 h2;by_cases k1:c a.1 b.1=0
  . have e1:=(hc.zero _ _).1 k1;rw[if_pos k1]at h1;rw[e1];by_cases k2:c b.1 d.1=0
    . rw[if_pos k2]at h2 ⊢;exact he.lt _ _ _ h1 h2
    . rw[if_neg k2]at h2 ⊢;exact h2
  . rw[if_neg k1]at h1;by_cases k2:c b.1 d.1=0
    . have e2:=(hc.zero _ _).1 k2;rw[<- e2,if_neg k1];exact h1
    . rw[if_neg k2]at h2;have h3:=hc.lt _ _ _ h1 h2;rw[if_neg (by omega)];exact h3
abbrev cpl:Bs×Int->Bs×Int->Int:=lex bB cY
theorem jJ:iy cpl:=zS cd rZ
theorem sc{a b:Bs}(s t:Int)(ha:aQ a=true)(hb:aQ b=true):pU a s b t=cpl (a,s) (b,t):=by
 unfold pU cpl lex dW;simp only[ha,hb,and_self,if_true,cd.zero]
def Signed.place(s:Signed):Bs×Int:=(s.set.name,s.set.type)
def dq.place(q:dq):Bs×Int:=(q.name,q.type)
def fP:List Signed->Prop
 |[]=>True
 |[_]=>True
 |a::b::t=>cpl a.place b.place<0/\fP (b::t)
theorem Sb{a b c:Bs×Int}(h1:0<=cpl a c)(h2:cpl a b<0):0<=cpl b c:=by
 rcases jJ.range b c with h|h|h
 . rcases jJ.range a b with k|k|k
   . have:=jJ.lt a b c k h;omega
   . omega
   . omega
 . omega
 . omega
theorem AX{q:Bs×Int}:∀{l:List Signed} {x:Signed},fP (x::l)->0<=cpl x.place q-> ∀s∈l,0<=cpl s.place q
 |[],_,_,_,s,hs=>by cases hs
 |y::t,x,h,hx,s,hs=>by
  have hy:=Sb hx h.1;rcases List.mem_cons.1 hs with rfl|hs
  . exact hy
  . exact AX h.2 hy s hs
theorem ma:∀{l:List Signed} {x:Signed},fP (x::l)-> ∀s∈l,cpl x.place s.place<0
 |[],_,_,s,hs=>by cases hs
 |y::t,x,h,s,hs=>by
  rcases List.mem_cons.1 hs with rfl|hs
  . exact h.1
  . have h1:=ma h.2 s hs;have h2:=h.1;rcases jJ.range x.place y.place with a|a|a <;> rcases jJ.range y.place s.place with b|b|b <;> first|omega|skip
    have:=jJ.lt _ _ _ a b;omega
theorem fP.tail{x:Signed}:∀{l:List Signed},fP (x::l)->fP l
 |[],_=>trivial
 |_::_,h=>h.2
def posOf(l:List Signed)(q:dq):Nat:=(l.takeWhile λs=>decide (cpl s.place q.place<0)).length
def is(q:dq)(s:Signed):Bool:=(s.set.name==q.name)&&(s.set.type==q.type)
def je(l:List Signed)(q:dq):Bool:=l.any (is q)
theorem uh(q:dq)(s:Signed):is q s=true ↔ s.place=q.place:=by
 simp[is,Signed.place,dq.place]
theorem DU{s:Signed}{q:dq}(hs:aQ s.set.name=true)(hq:aQ q.name=true):plc s q=cpl s.place q.place:=sc _ _ hs hq
theorem xl(q:dq)(hq:aQ q.name=true):∀(l:List Signed),fP l->(∀s∈l,aQ s.set.name=true)->Split l q (posOf l q)/\foundAt l q (posOf l q)=je l q
 |[],_,_=>⟨⟨Nat.le_refl _,λi s h=>(by cases h),λi s h=>(by cases h)⟩,rfl⟩
 |x::l,h,hv=>by
  have hx:=DU (hv x (List.mem_cons_self ..)) hq;by_cases hlt:cpl x.place q.place<0
  . have hp:posOf (x::l) q=posOf l q+1:=by simp[posOf,List.takeWhile_cons,hlt]
    obtain⟨⟨h1,h2,h3⟩,h4⟩:=xl q hq l h.tail λs hs=>hv s (bk _ hs)
    rw[hp];refine⟨⟨by simp;exact h1,?_,?_⟩,?_⟩
    . intro i s hs hi;cases i with
      |zero=>cases hs;omega
      |succ i=>exact h2 i s hs (by omega)
    . intro i s hs hi;cases i with
      |zero=>omega
      |succ i=>exact h3 i s hs (by omega)
    . have hne:is q x=false:=by
       cases hi:is q x with
       |false=>rfl
       |true=>rw[(uh q x).1 hi,(jJ.zero _ _).2 rfl]at hlt;omega
      unfold foundAt at h4 ⊢;rw[List.getElem?_cons_succ,h4];simp[je,hne]
  . have hp:posOf (x::l) q=0:=by simp[posOf,List.takeWhile_cons,hlt]
    have hge:0<=cpl x.place q.place:=by omega
    rw[hp];refine⟨⟨by omega,λi s _ hi=>by omega,?_⟩,?_⟩
    . intro i s hs _;have hm:=au hs;rw[DU (hv s hm) hq];rcases List.mem_cons.1 hm with rfl|hm
      . exact hge
      . exact AX h hge s hm
    . show(plc x q==0)=_
      rw[hx];have hb:(cpl x.place q.place==0)=is q x:=by
       rw[Bool.eq_iff_iff,beq_iff_eq,jJ.zero,uh]
      rw[hb];cases hi:is q x with
      |true=>simp[je,hi]
      |false =>
       have:je l q=false:=by
        simp only[je,List.any_eq_false];intro s hs hs';have h1:=ma h s hs;rw[(uh q s).1 hs']at h1;omega
       simp only[je,List.any_cons,hi,ir]at this ⊢;exact this.symm
structure Ordered(z:aD):Prop where
 apex:aQ z.apex=true
 tame:jz z.apex=false
 few:z.sets.length<=20000
 set:∀s∈z.sets,dC s.set=true
 under:∀s∈z.sets,(bo s.set.name z.apex).1=true
 rising:fP z.sets
theorem kO{s:cu}(h:dC s=true):aQ s.name=true:=by
 unfold dC at h;simp only[aF,Bool.not_eq_true',Bool.or_eq_false_iff,Bool.not_eq_false']at h;exact h.1.1.1.1.1
theorem AY:∀(l:List Signed),(∀s∈l,aQ s.set.name=true)->(∀i p s,l[i]? =some p->l[i+1]? =some s->pU p.set.name p.set.type s.set.name s.set.type<0)->fP l
 |[],_,_=>trivial
 |[_],_,_=>trivial
 | a :: b :: t, hv, h => ⟨by
     have:=h 0 a b rfl rfl
     rwa [sc _ _ (hv a (by simp)) (hv b (by simp))]at this,AY (b::t) (λs hs=>hv s (bk _ hs)) λi p s hp hs=>h (i+1) p s hp hs⟩
theorem Ordered.of{z:aD}(h:ordered z=true):Ordered z:=by
 unfold ordered at h;simp only[aF,Bool.not_eq_true',Bool.or_eq_false_iff,Bool.not_eq_false',decide_eq_false_iff_not,ay,List.mem_range]at h;obtain⟨⟨⟨h1,h2⟩,h3⟩,h4⟩:=h;have hat:∀(i:Nat) s p,z.sets[i]? =some s->z.sets[i-1]? =some p->lj z.apex i s p=false:=by
  intro i s p hs hp;have:=h4 i (aq.1 hs).1;rw[pz hs hp]at this;simpa using this
 have hset:∀s∈z.sets,dC s.set=true/\(bo s.set.name z.apex).1=true:=by
  intro s hs;obtain⟨i,hi⟩:=ck hs;obtain⟨hl,_⟩:=aq.1 hi;obtain⟨p,hp⟩:∃p,z.sets[i-1]? =some p:=⟨_,ai (by omega)⟩
  have:=hat i s p hi hp;unfold lj at this;simp only[Bool.or_eq_false_iff,Bool.not_eq_false']at this;exact⟨this.1.1,this.1.2⟩
 refine⟨h1,h2,by omega,λs hs=>(hset s hs).1,λs hs=>(hset s hs).2,AY _ (λs hs=>kO (hset s hs).1) ?_⟩;intro i p s hp hs;have:=hat (i+1) s p hs hp;unfold lj at this;simp only[Bool.or_eq_false_iff,Bool.not_eq_false',Bool.and_eq_false_iff,decide_eq_false_iff_not,beq_iff_eq]at this;rcases this.2 with k|k
 . omega
 . omega
theorem Ordered.name{z:aD}(h:Ordered z):∀s∈z.sets,aQ s.set.name=true:=λs hs=>kO (h.set s hs)
def aR(z:aD):Bool:=ordered z&&oa (λt=>je z.sets ⟨z.apex,t⟩) z&&(aliases z&&sf z (cU z)&&sM z (cU z)&&pZ z)
def DX(q:dq):Bool:=aQ q.name&&decide (q.type>=1)&&decide (q.type<=8)
end NP
namespace Go.Proofs.YtodofogcincleaaGreatDoor
open NQ Go NP Go.RowKit
theorem Gf{z:aD}(h:Ordered z)(q:dq)(hq:aQ q.name=true) :
 NQ.Fn cx 144 [.agg (aH z),.agg (nK q)] (.tuple [.d (.int .i64 (posOf z.sets q)),.d (.bool (je z.sets q))]) []:=by
 obtain⟨h1,h2⟩:=xl q hq z.sets h.rising h.name;have:=PG z q (posOf z.sets q) (by have:=h.few;omega) h1
 rwa [h2]at this
theorem iw(z:aD):NQ.Fn cx 40 [.agg (aH z)] (.d (.bool (aR z))) []:=by
 refine aK aV mixed Tryz.func40 (by kernel_rfl) rfl (ag rfl) ?_;conv=>whnf
 (refine⟨_,_,IC z,?_⟩;conv=>whnf)
 (refine af (λh=>?_) (λh=>?_) <;> (rw[h];conv=>whnf))
 . (refine aj rfl ?_;show AV.d (D.bool false)=_;(try simp only[Bool.not_eq_true',Bool.not_eq_false',an]at *);simp only[aR, *, if_true,if_false,aI];done)
 have ho:Ordered z:=Ordered.of (by simpa using h);have hn:z.sets.length<=100000:=by have:=ho.few;omega
 have hb:(cU z).length=z.sets.length:=tv _ _ _
 (refine⟨_,_,Cn z hn _ _ (λt=>Gf ho ⟨z.apex,t⟩ ho.apex),?_⟩;conv=>whnf)
 (refine af (λh=>?_) (λh=>?_) <;> (rw[h];conv=>whnf))
 . (refine aj rfl ?_;show AV.d (D.bool false)=_;(try simp only[Bool.not_eq_true',Bool.not_eq_false',an]at *);simp only[aR, *, if_true,if_false,aI];done)
 (refine⟨_,_,KP z hn,?_⟩;conv=>whnf)
 have hv:aR z=(aliases z&&sf z (cU z)&&sM z (cU z)&&pZ z):=by
  simp only[Bool.not_eq_false']at *;simp only[aR, *, if_true,if_false,aI]
 (refine⟨_,_,zr z _ hn,?_⟩;conv=>whnf)
 repeat' (first|(refine⟨_,_,ET z _ hn hb,?_⟩;conv=>whnf)|(refine⟨_,_,Fz z _ hn hb,?_⟩;conv=>whnf)|(refine⟨_,_,Dd z _ hn,?_⟩;conv=>whnf)|(refine⟨(by kernel_rfl:bE _ _=true),?_⟩;conv=>whnf)|(refine af (λh=>?_) (λh=>?_) <;> (rw[h];conv=>whnf))|fail)
 all_goals first
  |(refine aj rfl ?_;show AV.d (D.bool false)=_;rw[hv];simp only[*, if_true,if_false,aI];done)
  |(refine aj rfl ?_;show AV.d (D.bool (pZ z))=_;rw[hv];simp only[*, if_true,if_false,aI];done)
  |fail
end Go.Proofs.YtodofogcincleaaGreatDoor
namespace NP
open NQ Go
theorem qP{s:Bs}(h:aQ s=true):bU (cF s)=(bU s).tail:=wc (yv (List.tail_suffix _) (qB h))
theorem pA{s:Bs}(h:aQ s=true):aQ (cF s)=true:=Ev (List.tail_suffix _) h
theorem Et{n z:Bs}(hn:aQ n=true)(h:bd n z=true)(hne:n≠z):n≠[46]/\bd (cF n) z=true/\(bU (cF n)).length+1=(bU n).length:=by
 unfold bd at h ⊢;rw[qP hn];have hs:=List.isSuffixOf_iff_suffix.1 h;cases hl:bU n with
 |nil =>
  rw[hl]at hs;have:bU z=[]:=List.suffix_nil.1 hs;exact absurd (wZ (by rw[hl,this])) hne
 |cons x t =>
  rw[hl]at hs;refine⟨λe=>by rw[e]at hl;simp[bU]at hl,?_,by simp⟩;rcases List.suffix_cons_iff.1 hs with k|k
  . exact absurd (wZ (by rw[hl,k])) hne
  . exact List.isSuffixOf_iff_suffix.2 k
theorem MV{l:List Signed}{q:dq}{c:Nat}(h:foundAt l q c=true):∃s,l[c]? =some s/\plc s q=0:=by
 unfold foundAt at h;split at h
 . rename_i s hs;exact⟨s,hs,by simpa using h⟩
 . cases h
theorem MW{z:aD}(ho:Ordered z){q:dq}(hq:aQ q.name=true)(h:je z.sets q=true):∃s,z.sets[posOf z.sets q]? =some s/\s∈z.sets/\s.place=q.place:=by
 obtain⟨_,h2⟩:=xl q hq z.sets ho.rising ho.name;rw[h]at h2;obtain⟨s,hs,hp⟩:=MV h2;have hm:=au hs;exact⟨s,hs,hm,(jJ.zero _ _).1 (by rw[<- DU (ho.name s hm) hq];exact hp)⟩
theorem bX{z:aD}(h:aR z=true):Ordered z:=by
 unfold aR at h;simp only[aF]at h;exact Ordered.of h.1.1
theorem uA{s:cu}(h:dC s=true):∃d,s.data[0]? =some d:=by
 unfold dC at h;simp only[aF,Bool.not_eq_true',Bool.or_eq_false_iff,Bool.not_eq_false']at h;have h1:=h.1.1.2;unfold within at h1;simp at h1;exact⟨_,ai (by omega)⟩
def fb(z:aD):Int:=match z.sets[posOf z.sets ⟨z.apex,4⟩]? with|some s=>(match s.set.data[0]? with|some d=>d.n|none=>0)|none=>0
def rN(z:aD):Int×Int:=if (!aR z)=true then(0,1)else(fb z,0)
def xR(z:aD):Nat->Bs->Option Bs
 |0,_=>none
 |f+1,n=>if n=z.apex then none else if je z.sets ⟨n,2⟩=true then some n else xR z f (cF n)
def MH(z:aD)(s:Bs):Option Bs:=xR z ((bU s).length+1) s
def nQ(z:aD)(s:Bs):Bs×Bool×Int :=
 if (!aQ s|| !aR z)=true then([],false,1)else if (!(bo s z.apex).1)=true then([],false,20)
 else match MH z s with|some c=>(c,true,0)|none=>([],false,0)
end NP
namespace Go.Proofs.YtodofogcincleaaGreatDoor
open NQ Go NP Go.RowKit
theorem QU(z:aD)(s:Bs):NQ.Fn cx 140 [.agg (aH z),.str s] (.tuple [.d (.str (nQ z s).1),.d (.bool (nQ z s).2.1),.d (.int .i64 (nQ z s).2.2)]) []:=by
 refine aK aV mixed Tryz.func140 (by kernel_rfl) rfl (ag rfl) ?_;conv=>whnf
 (refine⟨_,_,lC s,?_⟩;conv=>whnf)
 (refine af (λh=>?_) (λh=>?_) <;> (rw[h];conv=>whnf))
 . refine aj rfl ?_;rw[nQ,h];rfl
 (refine⟨_,_,iw z,?_⟩;conv=>whnf)
 (refine af (λh=>?_) (λh=>?_) <;> (rw[h];conv=>whnf))
 . refine aj rfl ?_;rw[nQ,if_pos (by simp only[*, if_true,if_false,aI])];rfl
 have hvs:aQ s=true:=by simp only[Bool.not_eq_false']at *; assumption
 have hv:aR z=true:=by simp only[Bool.not_eq_false']at *; assumption
 have ho:=bX hv;have h0:¬(!aQ s|| !aR z)=true:=by simp[hvs,hv]
 (refine⟨_,_,mK s z.apex,?_⟩;conv=>whnf)
 (refine af (λh=>?_) (λh=>?_) <;> (rw[h];conv=>whnf))
 . refine aj rfl ?_;rw[nQ,if_neg h0,if_pos (by assumption)];rfl
 have hu:bo s z.apex=(true,0):=by
  have h3:(bo s z.apex).1=true:=by simp only[Bool.not_eq_false']at *; assumption
  unfold bo at h3 ⊢;rw[if_pos ⟨hvs,ho.apex⟩]at h3 ⊢;rw[show bd s z.apex=true from h3]
 have hR:nQ z s=(match MH z s with|some c=>(c,true,0)|none=>([],false,0)):=by
  rw[nQ,if_neg h0,hu];rfl
 have hun:bd s z.apex=true:=by
  unfold bo at hu;rw[if_pos ⟨hvs,ho.apex⟩]at hu;exact(Prod.mk.inj hu).1
 refine⟨Bs,λn=>⟨[(2,.ptr 2 0),(9,.ptr 9 0),(10,.d (.str n))],[(2,.box ((aH z).map .d)),(9,.box ((aH z).map .d))]⟩,
  λn=>aQ n=true/\bd n z.apex=true/\xR z ((bU n).length+1) n=MH z s,λn=>(bU n).length,
  ⟨s,⟨hvs,hun,rfl⟩,aC.keep ⟨ae,ae,ae,trivial⟩ ⟨ae,ae,trivial⟩⟩,λn ⟨hvn,hn,hc⟩=>?_⟩
 conv=>whnf
 refine af (λh1=>?_) (λh1=>?_) <;> (rw[h1];conv=>whnf)
 . have hne:n≠z.apex:=by simpa using h1
   obtain⟨k1,k2,k3⟩:=Et hvn hn hne;rw[xR,if_neg hne]at hc
   (refine⟨_,_,Gf ho ⟨n,2⟩ hvn,?_⟩;conv=>whnf)
   refine af (λh2=>?_) (λh2=>?_) <;> (rw[h2];conv=>whnf)
   . refine aj rfl ?_;rw[if_pos h2]at hc;rw[hR, <- hc];rfl
   . rw[if_neg (by rw[h2];exact Bool.false_ne_true), <- k3]at hc;have hp:gU n=(cF n,0):=by unfold gU;rw[if_pos hvn,if_neg k1]
     have hpf:=JB n;rw[hp]at hpf
     (refine⟨_,_,hpf,?_⟩;conv=>whnf)
     exact⟨cF n,⟨pA hvn,k2,hc⟩,by(show(bU (cF n)).length<(bU n).length;omega),aC.keep ⟨ae,ae,ae,trivial⟩ ⟨ae,ae,trivial⟩⟩
 . have hne:n=z.apex:=by simpa using h1
   rw[xR,if_pos hne]at hc;refine aj rfl ?_;rw[hR, <- hc];rfl
end Go.Proofs.YtodofogcincleaaGreatDoor
namespace NP
open NQ Go
def my(l:List Bs):Bs:=(l[l.length-1]?).getD []
def yq(n b:Bs):Bool:= !(b==[])&& !(b==n)
def yr(acc:List Bs)(n:Bs):Bool:=((acc.length:Int)==0)|| !(my acc==n)
def nam:List Bs->List (Signed×Bs)->List Bs
 |acc,[]=>acc
 |acc,(s,b)::t=>nam (if yq s.set.name b=true then acc else if yr acc s.set.name=true then acc++[s.set.name]else acc) t
def rI(z:aD):List Bs:=nam [] (z.sets.zip (cU z))
def jB(z:aD):List Bs×Int:=if (!aR z)=true then([],1)else(rI z,0)
theorem zR{acc:List Bs}(h:(((acc.map ba).length:Int)==0)=false):acc.length≠0:=by simp at h;simpa using h
theorem Nx{acc:List Bs}(h:(((acc.map ba).length:Int)==0)=false):(acc.map ba)[((acc.length-1:Nat):Int).toNat]? =some (ba (my acc)):=by
 have h' :=zR h;rw[Int.toNat_natCast,aM,my,ai (by omega)];rfl
theorem KN{acc:List Bs}(hl:acc.length<=100000)(h:(((acc.map ba).length:Int)==0)=false):IntKind.i64.wrap (((acc.map ba).length:Int)-1)=((acc.length-1:Nat):Int):=by
 have h' :=zR h;rw[an,wrap_i64 (by omega) (by omega)];omega
theorem PU{acc:List Bs}(h:(((acc.map ba).length:Int)==0)=false):((acc.length-1:Nat):Int).toNat<(acc.map ba).length:=by
 have h' :=zR h;simp;omega
end NP
namespace Go.Proofs.YtodofogcincleaaGreatDoor
open NQ Go NP Go.RowKit
theorem NK(z:aD):NQ.Fn cx 228 [.agg (aH z)] (.tuple [.d (.slice 1 ((jB z).1.map ba)),.d (.int .i64 (jB z).2)]) []:=by
 refine aK aV mixed Tryz.func228 (by kernel_rfl) rfl (ag rfl) ?_;conv=>whnf
 (refine⟨_,_,iw z,?_⟩;conv=>whnf)
 (refine af (λh=>?_) (λh=>?_) <;> (rw[h];conv=>whnf))
 . refine aj rfl ?_;rw[jB,if_pos h];rfl
 have hv:aR z=true:=by simpa using h
 have ho:=bX hv;have hn:z.sets.length<=100000:=by have:=ho.few;omega
 have hb:(cU z).length=z.sets.length:=tv _ _ _;have hR:jB z=(rI z,0):=by rw[jB,if_neg (by simp[hv])]
 (refine⟨_,_,KP z hn,?_⟩;conv=>whnf)
 refine ⟨Nat × List Bs, fun x => ⟨[(1, .ptr 1 0), (4, .ptr 4 0), (5, .own 100), (18, .d (.slice 5 (z.sets.map ak))), (19, .d (.int .i64 ((z.sets.map ak).length : Int))), (20, .d (.int .i64 x.1))],
     [(1,.box ((aH z).map .d)),(4,.box ((qQ z (cU z)).map .d)),(100,.row 9 1 (x.2.map ba))]⟩,
  λx=>x.1<=z.sets.length/\x.2.length<=x.1/\nam x.2 ((z.sets.zip (cU z)).drop x.1)=rI z,λx=>z.sets.length-x.1,
  ⟨(0,[]),⟨by simp,by simp,rfl⟩,(aC.jN 5 100 1 9 1 rfl rfl (by decide)).trans (aC.keep ⟨ae,ae,ae,ae,ae,ae,trivial⟩ ⟨ae,ae,ae,trivial⟩)⟩,?_⟩
 rintro⟨k,acc⟩ ⟨hk,hl,hc⟩;simp only at hk hl hc
 conv=>whnf
 refine af (λh1=>?_) (λh1=>?_) <;> (rw[h1];conv=>whnf)
 . have hlt:k<z.sets.length:=by simp at h1;omega
   obtain⟨s,hs⟩:∃s,z.sets[k]? =some s:=⟨_,ai hlt⟩
   obtain⟨b,hb'⟩:∃b,(cU z)[k]? =some b:=⟨_,ai (by omega)⟩
   have hdr:(z.sets.zip (cU z)).drop k=(s,b)::(z.sets.zip (cU z)).drop (k+1):=by
    rw[List.drop_eq_getElem_cons (by simp;omega)]
    congr 1
    rw[List.getElem_zip];obtain⟨_,e1⟩:=aq.1 hs;obtain⟨_,e2⟩:=aq.1 hb';rw[e1,e2]
   rw[hdr,nam]at hc;refine⟨aw k,ak s,aB hs,?_⟩
   conv=>whnf
   have e0:(⟨#[]⟩:ByteArray).data.toList=[]:=rfl;clear hdr hb
   repeat' (first
    |(refine⟨(by kernel_rfl:bE _ _=true),?_⟩;conv=>whnf)
    |(refine⟨(k+1,acc),⟨hlt,by(simp;omega),(by(try simp only[e0,an]at *);simp only[yq,yr, *, if_true,if_false,aI]at hc;exact hc)⟩,by(show z.sets.length-(k+1)<z.sets.length-k;omega),aC.keep ⟨ae,ae,ae,ae,ae,⟨ao (by omega),rfl⟩,trivial⟩ ⟨ae,ae,⟨by first|rfl|(show some (Blk.row _ _ (_++_))=some (Blk.row _ _ _);rw[List.map_append];rfl),rfl⟩,trivial⟩⟩;done)
    |(refine⟨(k+1,acc++[s.set.name]),⟨hlt,by(simp;omega),(by(try simp only[e0,an]at *);simp only[yq,yr, *, if_true,if_false,aI]at hc;exact hc)⟩,by(show z.sets.length-(k+1)<z.sets.length-k;omega),aC.keep ⟨ae,ae,ae,ae,ae,⟨ao (by omega),rfl⟩,trivial⟩ ⟨ae,ae,⟨by first|rfl|(show some (Blk.row _ _ (_++_))=some (Blk.row _ _ _);rw[List.map_append];rfl),rfl⟩,trivial⟩⟩;done)
    |(refine af (λh=>?_) (λh=>?_) <;> (rw[h];conv=>whnf))
    |(refine⟨aw k,ba b,aB hb',?_⟩;conv=>whnf)
    |(rw[KN (acc:=acc) (by omega) (by assumption)];refine⟨aw _,PU (acc:=acc) (by assumption),?_⟩;conv=>whnf)
    |(refine⟨_,Nx (acc:=acc) (by assumption),?_⟩;conv=>whnf)
    |(refine⟨by(show(acc.map ba).length+1<=_;rw[an];omega),by(show((acc.map ba).length+1)*16<=_;rw[an];omega),?_⟩;conv=>whnf)
    |fail)
 . obtain rfl:k=z.sets.length:=by simp at h1;omega
   refine aj rfl ?_;rw[List.drop_eq_nil_of_le (by simp;omega),nam]at hc;rw[hR, <- hc];rfl
end Go.Proofs.YtodofogcincleaaGreatDoor
namespace NP
open NQ Go
def atI(l:List Signed)(q:dq):Int:=match l.findIdx? (is q)with|some k=>(k:Int)|none=> -1
def pn(l:List Signed)(q:dq)(i:Nat):Bool:=match l[i]? with|some x=> !is q x|none=>true
theorem Pu{l:List Signed}{q:dq}{k:Nat}{s:Signed}(hk:l[k]? =some s)(hs:is q s=true)(hb:(List.range k).all (pn l q)=true):atI l q=k:=by
 obtain⟨hl,e⟩:=aq.1 hk;have:l.findIdx? (is q)=some k:=List.findIdx?_eq_some_iff_getElem.2 ⟨hl,by rw[e];exact hs,λj hj=>by
  have:=ay.1 hb j (List.mem_range.2 hj);simp only[pn,ai (show j<l.length by omega)]at this;simpa using this⟩
 rw[atI,this]
theorem Mq{l:List Signed}{q:dq}(hb:(List.range l.length).all (pn l q)=true):atI l q= -1:=by
 have:l.findIdx? (is q)=none:=List.findIdx?_eq_none_iff.2 λx hx=>by
  obtain⟨j,hj,rfl⟩:=List.getElem_of_mem hx;have:=ay.1 hb j (List.mem_range.2 hj);simp only[pn,ai hj]at this;simpa using this
 rw[atI,this]
def si(z:aD)(i:Nat):Bool:=match z.sets[i]? with|some s=> !(decide ((s.set.data.length:Int)>20)||decide ((s.sigs.length:Int)>20))|none=>false
def nS(z:aD):Bool:=decide ((z.sets.length:Int)<=100)&&(List.range z.sets.length).all (si z)
def IA(apex:Bs)(i:Nat)(s p:Signed):Bool:= !dC s.set|| !bd s.set.name apex||(decide ((i:Int)>0)&&decide (cpl (p.set.name,p.set.type) (s.set.name,s.set.type)>=0))
def Iz(z:aD)(i:Nat):Bool:=match z.sets[i]?, z.sets[i-1]? with|some s,some p=> !IA z.apex i s p|_,_=>false
def DK(z:aD):Bool:= !((!aQ z.apex||jz z.apex)||decide ((z.sets.length:Int)>20000))&&(List.range z.sets.length).all (Iz z)
def Sj(i:Nat)(apex:Bs)(g f p:Sig):Bool :=
 (!(g.zone==apex)||decide (g.key<1)||decide (g.key>1000000)||decide (g.alg<1)||decide (g.alg>3)||(g.since != f.since)||(g.till != f.till)||(decide ((i:Int)>0)&&decide (g.key<=p.key))) ||
  (decide (g.since<0)||decide (g.since>g.till)||decide (g.till>20000000))
def gAt(l:List Sig)(apex:Bs)(i:Nat):Bool:=match l[i]?, l[0]?, l[i-1]? with|some g,some f,some p=> !Sj i apex g f p|_,_,_=>false
def gB(l:List Sig)(apex:Bs):Bool:= !decide ((l.length:Int)>6)&&(List.range l.length).all (gAt l apex)
end NP
namespace Go.Proofs.YtodofogcincleaaGreatDoor
open NQ Go NP Go.RowKit
theorem ON(z:aD)(q:dq)(hn:z.sets.length<=100000):NQ.Fn cx 19 [.agg (aH z),.agg (nK q)] (.d (.int .i64 (atI z.sets q))) []:=by
 refine aK aV mixed Tryz.func19 (by kernel_rfl) rfl (ag rfl) ?_;conv=>whnf
 refine⟨Nat,λk=>⟨[(2,.ptr 2 0),(3,.ptr 3 0),(5,.d (.int .i64 k))],[(2,.box ((aH z).map .d)),(3,.box ((nK q).map .d))]⟩,λk=>k<=z.sets.length/\(List.range k).all (pn z.sets q)=true,λk=>z.sets.length-k,⟨0,⟨by omega,rfl⟩,aC.keep ⟨ae,ae,ae,trivial⟩ ⟨ae,ae,trivial⟩⟩,λk ⟨hk,hall⟩=>?_⟩;(conv=>whnf);refine af (λh1=>?_) (λh1=>?_) <;> (rw[h1];conv=>whnf)
 . have hlt:k<z.sets.length:=by simp at h1;omega
   obtain⟨s,hs⟩:∃s,z.sets[k]? =some s:=⟨_,ai hlt⟩
   have hat:pn z.sets q k= !is q s:=by simp only[pn,hs]
   repeat' (first
    |(refine⟨(by kernel_rfl:bE _ _=true),?_⟩;conv=>whnf)
    |(refine aj rfl ?_;rw[Pu hs (by simp only[is, *, if_true,if_false,aI]) hall];rfl)
    |(refine⟨k+1,⟨by omega,?_⟩,by(show z.sets.length-(k+1)<z.sets.length-k;omega),aC.keep ⟨ae,ae,⟨ao (by omega),rfl⟩,trivial⟩ ⟨ae,ae,trivial⟩⟩;rw[di,hall,hat];((try simp only[an]at *);simp only[is, *, if_true,if_false,aI];done))
    |(refine af (λh=>?_) (λh=>?_) <;> (rw[h];conv=>whnf))
    |(refine⟨aw k,ak s,aB hs,?_⟩;conv=>whnf)
    |fail)
 . obtain rfl:k=z.sets.length:=(by simp at h1;omega)
   refine aj rfl ?_;rw[Mq hall];rfl
theorem Rg(z:aD):NQ.Fn cx 78 [.agg (aH z)] (.d (.bool (nS z))) []:=by
 refine aK aV mixed Tryz.func78 (by kernel_rfl) rfl (ag rfl) ?_;conv=>whnf
 refine⟨Nat,λk=>⟨[(1,.ptr 1 0),(3,.d (.int .i64 k))],[(1,.box ((aH z).map .d))]⟩,λk=>k<=z.sets.length/\k<=101/\(List.range k).all (si z)=true,λk=>101-k,
  ⟨0,⟨by omega,by omega,rfl⟩,aC.keep ⟨ae,ae,trivial⟩ ⟨ae,trivial⟩⟩,λk ⟨hk,hk',hall⟩=>?_⟩
 conv=>whnf
 refine af (λh1=>?_) (λh1=>?_) <;> (rw[h1];conv=>whnf)
 . have hlt:k<z.sets.length:=by simp at h1;omega
   refine af (λh2=>?_) (λh2=>?_) <;> (rw[h2];conv=>whnf)
   . have hlt' :k<=100:=by simp at h2;omega
     obtain⟨s,hs⟩:∃s,z.sets[k]? =some s:=⟨_,ai hlt⟩
     have hat:si z k= !(decide ((s.set.data.length:Int)>20)||decide ((s.sigs.length:Int)>20)):=by simp only[si,hs]
     have hno:si z k=false->nS z=false:=λhh=>by rw[nS,cS hlt hh,kD]
     repeat' (first
      |(refine⟨(by kernel_rfl:bE _ _=true),?_⟩;conv=>whnf)
      |(refine aj rfl ?_;show AV.d (D.bool false)=_;(try simp only[an]at *);rw[hno (by rw[hat];simp only[si, *, if_true,if_false,aI])];done)
      |(refine⟨k+1,⟨by omega,by omega,?_⟩,by(show 101-(k+1)<101-k;omega),aC.keep ⟨ae,⟨ao (by omega),rfl⟩,trivial⟩ ⟨ae,trivial⟩⟩;rw[di,hall,hat];((try simp only[an]at *);simp only[si, *, if_true,if_false,aI];done))
      |(refine af (λh=>?_) (λh=>?_) <;> (rw[h];conv=>whnf))
      |(refine⟨aw k,ak s,aB hs,?_⟩;conv=>whnf)
      |fail)
   . refine aj rfl ?_;show AV.d (D.bool (decide (((z.sets.map ak).length:Int)<=100)))=_
     have:decide ((z.sets.length:Int)<=100)=false:=by simp at h2 ⊢;omega
     rw[an,nS,this];rfl
 . refine aj rfl ?_;obtain rfl:k=z.sets.length:=(by simp at h1;omega)
   show AV.d (D.bool (decide (((z.sets.map ak).length:Int)<=100)))=_
   rw[an,nS,hall,iT]
end Go.Proofs.YtodofogcincleaaGreatDoor
namespace NP
open NQ Go
theorem GD(z:aD):DK z=ordered z:=by
 unfold DK ordered;by_cases hv:aQ z.apex=true
 . congr 1
   by_cases hall:∀s∈z.sets,dC s.set=true
   . rw[Bool.eq_iff_iff,ay,ay];have heq:∀i,i<z.sets.length->Iz z i=qo z i:=by
      intro i hi;obtain⟨s,hs⟩:∃s,z.sets[i]? =some s:=⟨_,ai hi⟩
      obtain⟨p,hp⟩:∃p,z.sets[i-1]? =some p:=⟨_,ai (by omega)⟩
      have vs:=kO (hall s (au hs));have vp:=kO (hall p (au hp));have hu:(bo s.set.name z.apex).1=bd s.set.name z.apex:=by unfold bo;rw[if_pos ⟨vs,hv⟩]
      rw[pz hs hp];simp only[Iz,hs,hp];unfold IA lj;rw[hu,sc _ _ vp vs];have:decide ((i:Int)>0)= !((i:Int)==0):=by rw[Bool.eq_iff_iff];simp;omega
      rw[this]
     exact⟨λh i hi=>by rw[<- heq i (List.mem_range.1 hi)];exact h i hi,λh i hi=>by rw[heq i (List.mem_range.1 hi)];exact h i hi⟩
   . have⟨s,hm,hs⟩:∃s∈z.sets,dC s.set=false:=by
      simp only[Classical.not_forall]at hall;obtain⟨s,hm,hs⟩:=hall;exact⟨s,hm,by simpa using hs⟩
     obtain⟨i,hi⟩:=ck hm;obtain⟨hl,_⟩:=aq.1 hi;obtain⟨p,hp⟩:∃p,z.sets[i-1]? =some p:=⟨_,ai (by omega)⟩
     rw[cS hl (by simp only[Iz,hi,hp,IA,hs];rfl),cS hl (by rw[pz hi hp,lj,hs];rfl)]
 . simp[show aQ z.apex=false by simpa using hv]
end NP
namespace Go.Proofs.YtodofogcincleaaGreatDoor
open NQ Go NP Go.RowKit
end Go.Proofs.YtodofogcincleaaGreatDoor
namespace NP
open NQ Go
def ja(apex:Bs):List Signed->List Bs
 |[]=>[]
 |s::t=>if iL apex s=true then s.set.name::ja apex t else ja apex t
theorem pV(apex:Bs):∀(l:List Signed) c,c∈ja apex l-> ∃s∈l,s.set.name=c
 |[],c,h=>by cases h
 |s::t,c,h=>by
  unfold ja at h;split at h
  . rcases List.mem_cons.1 h with rfl|h
    . exact⟨s,List.mem_cons_self .., rfl⟩
    . obtain⟨x,hx,e⟩:=pV apex t c h;exact⟨x,bk _ hx,e⟩
  . obtain⟨x,hx,e⟩:=pV apex t c h;exact⟨x,bk _ hx,e⟩
def ya(acc:List Bs)(c:Bs):Bool:=((acc.length:Int)==0)|| !bd c (my acc)
def qM:List Bs->List Bs->List Bs
 |acc,[]=>acc
 |acc,c::t=>qM (if ya acc c=true then acc++[c]else acc) t
def dh(z:aD):List Bs:=qM [] (ja z.apex z.sets)
theorem drop_cons{α:Type}{l:List α}{k:Nat}{x:α}(h:l[k]? =some x):l.drop k=x::l.drop (k+1):=by
 obtain⟨hl,e⟩:=aq.1 h;rw[List.drop_eq_getElem_cons hl,e]
theorem nI{acc:List Bs}(h:acc.length≠0):my acc∈acc:=by
 rw[my,ai (by omega)];exact List.getElem_mem _
end NP
namespace Go.Proofs.YtodofogcincleaaGreatDoor
open NQ Go NP Go.RowKit
end Go.Proofs.YtodofogcincleaaGreatDoor
namespace NP
open NQ Go
def BI(cs:List Bs)(n:Bs)(k:Nat):Nat:=k+((cs.drop k).takeWhile λc=>decide (bB c n<=0)).length
def BR(cs:List Bs)(j:Nat):Bs:=(cs[j-1]?).getD []
def Cv(cs:List Bs)(j:Nat)(n:Bs):Bs:=if (decide ((j:Int)>0)&&bd n (BR cs j))=true then BR cs j else[]
def bGo(cs:List Bs):Nat->List Signed->List Bs
 |_,[]=>[]
 |k,s::t=>Cv cs (BI cs s.set.name k) s.set.name::bGo cs (BI cs s.set.name k) t
def FW(z:aD):List Bs:=bGo (dh z) 0 z.sets
theorem Dn:∀(l acc:List Bs) c,c∈qM acc l->c∈acc\/c∈l
 |[],acc,c,h=> .inl h
 |x::t,acc,c,h=>by
  rw[qM]at h;rcases Dn t _ c h with q|q
  . split at q
    . rcases List.mem_append.1 q with q|q
      . exact .inl q
      . simp at q;subst q;exact .inr (List.mem_cons_self ..)
    . exact .inl q
  . exact .inr (bk _ q)
end NP
namespace Go.Proofs.YtodofogcincleaaGreatDoor
open NQ Go NP Go.RowKit
end Go.Proofs.YtodofogcincleaaGreatDoor
namespace NP
open NQ Go
def iW(b:Bool):List D:=[.bool b]
end NP
namespace Go.Proofs.YtodofogcincleaaGreatDoor
open NQ Go NP Go.RowKit
end Go.Proofs.YtodofogcincleaaGreatDoor
namespace NP
open NQ Go
theorem pL{a z:Bs}(h:bd a z=true):bB z a<=0:=by
 rw[js]at h;obtain⟨t,ht⟩:=h;unfold bB;rw[<- ht];exact ER cD _ _
theorem pM{a b c z:Bs}(ha:bd a z=true)(hc:bd c z=true)(h1:bB a b<=0)(h2:bB b c<=0):bd b z=true:=by
 rw[js]at ha hc ⊢;obtain⟨s,hs⟩:=ha;obtain⟨t,ht⟩:=hc;unfold bB at h1 h2;rw[<- hs]at h1;rw[<- ht]at h2;exact pT cD _ _ _ _ h1 h2
theorem kS(a:Bs):bd a a=true:=by rw[js];exact List.prefix_refl _
theorem JY{a b:Bs}(h:bB a b<0):bB a b= -1:=by rcases cd.range a b with e|e|e <;> omega
theorem My{a b c:Bs}(h:bB a b<0)(k:bB b c<0):bB a c<0:=by
 have:=cd.lt _ _ _ (JY h) (JY k);omega
theorem Ga{a b:Bs}(h:bB a b<0):¬bB b a<=0:=by have:=cd.anti a b;omega
abbrev Asc(l:List Bs):Prop:=l.Pairwise λa b=>bB a b<0
theorem CM(apex:Bs):∀(l:List Signed),fP l->Asc (ja apex l)
 |[],_=>List.Pairwise.nil
 |x::t,h=>by
  have ih:=CM apex t h.tail;unfold ja;split
  . rename_i hx;refine List.Pairwise.cons ?_ ih;intro c hc;have hm:∀(l:List Signed) c,c∈ja apex l-> ∃s∈l,s.set.name=c/\s.set.type=2:=by
     intro l;induction l with
     |nil=>intro c h;cases h
     |cons s l ih =>
      intro c h;unfold ja at h;split at h
      . rename_i hs;rcases List.mem_cons.1 h with rfl|h
        . refine⟨s,List.mem_cons_self .., rfl,?_⟩;unfold iL at hs;simp at hs;exact hs.1
        . obtain⟨y,hy,e⟩:=ih c h;exact⟨y,bk _ hy,e⟩
      . obtain⟨y,hy,e⟩:=ih c h;exact⟨y,bk _ hy,e⟩
    obtain⟨s,hs,e1,e2⟩:=hm t c hc;have hlt:=ma h s hs;have hx2:x.set.type=2:=by unfold iL at hx;simp at hx;exact hx.1
    unfold Signed.place at hlt;rw[e1,e2,hx2]at hlt;unfold cpl lex at hlt;split at hlt
    . have:cY 2 2=0:=rfl;simp only at hlt;rw[this]at hlt;omega
    . exact hlt
  . exact ih
def wD(l:List Bs):Prop:= ∀a∈l,∀b∈l,bd a b=true->a=b
theorem Cp{l:List Bs}(h:Asc l)(hne:l.length≠0):∀a∈l,bB a (my l)<=0:=by
 intro a ha;obtain⟨i,hi,rfl⟩:=List.getElem_of_mem ha;rw[my,ai (by omega),Option.getD_some];by_cases e:i=l.length-1
 . subst e;rw[(cd.zero _ _).2 rfl];exact Int.le_refl _
 . have:=List.pairwise_iff_getElem.1 h i (l.length-1) hi (by omega) (by omega);omega
theorem ud:∀(rest acc:List Bs),Asc (acc++rest)->wD acc->Asc (qM acc rest)/\wD (qM acc rest)/\(∀a∈acc,a∈qM acc rest)/\(∀c∈rest,∃h∈qM acc rest,bd c h=true)
 |[],acc,h,ha=>⟨by rw[qM];simpa using h,ha,λa h=>h,λc h=>by cases h⟩
 |c::t,acc,h,ha=>by
  have hacc:Asc acc:=(List.pairwise_append.1 h).1;have hlt:∀a∈acc,bB a c<0:=λa hm=>(List.pairwise_append.1 h).2.2 a hm c (List.mem_cons_self ..)
  rw[qM];by_cases hn:ya acc c=true
  . rw[if_pos hn];have hno:∀a∈acc,bd c a=false:=by
     intro a hm;cases hu:bd c a with
     |false=>rfl
     |true =>
      have hne:acc.length≠0:=by cases acc with|nil=>cases hm|cons=>simp
      have h1:=Cp hacc hne a hm;have h2:=hlt _ (nI hne);have h3:=pM (kS a) hu h1 (by omega);have h4:=ha _ (nI hne) _ hm h3;unfold ya at hn;rw[h4,hu]at hn;simp at hn;exact absurd (by simpa using hn) hne
    have hanti:wD (acc++[c]):=by
     intro a hma b hmb hu;rcases List.mem_append.1 hma with qa|qa <;> rcases List.mem_append.1 hmb with qb|qb
     . exact ha a qa b qb hu
     . simp at qb;subst qb;exact absurd (pL hu) (Ga (hlt a qa))
     . simp at qa;subst qa;rw[hno b qb]at hu;cases hu
     . simp at qa qb;rw[qa,qb]
    obtain⟨r1,r2,r3,r4⟩:=ud t (acc++[c]) (by simpa using h) hanti;refine⟨r1,r2,λa hm=>r3 a (List.mem_append_left _ hm),λx hx=>?_⟩;rcases List.mem_cons.1 hx with rfl|hx
    . exact⟨x,r3 x (by simp),kS x⟩
    . exact r4 x hx
  . rw[if_neg hn];have hne:acc.length≠0:=λe=>hn (by unfold ya;rw[e];rfl)
    have hu:bd c (my acc)=true:=by
     unfold ya at hn;simp at hn;exact hn.2
    have h' :Asc (acc++t):=by
     have h:=List.pairwise_append.1 h;refine List.pairwise_append.2 ?_;exact⟨h.1,(List.pairwise_cons.1 h.2.1).2,λa hm b hb=>h.2.2 a hm b (bk _ hb)⟩
    obtain⟨r1,r2,r3,r4⟩:=ud t acc h' ha;refine⟨r1,r2,r3,λx hx=>?_⟩;rcases List.mem_cons.1 hx with rfl|hx
    . exact⟨_,r3 _ (nI hne),hu⟩
    . exact r4 x hx
def spec(H:List Bs)(n:Bs):Bs:=(H.find? λh=>bd n h).getD []
theorem Ai{H:List Bs}(hA:Asc H)(ha:wD H){n h:Bs}(hm:h∈H)(hu:bd n h=true):spec H n=h:=by
 unfold spec;cases hf:H.find? (λh=>bd n h)with
 |none=>have:=List.find?_eq_none.1 hf h hm;rw[hu]at this;exact absurd rfl this
 |some g =>
  have hg:=List.find?_some hf;have hgm:=List.mem_of_find?_eq_some hf;show g=h
  have h1:=pL hu;have h2:=pL hg;rcases cd.range g h with e|e|e
  . exact(ha h hm g hgm (pM (kS g) hg (by omega) h1)).symm
  . exact(cd.zero _ _).1 e
  . have:=cd.anti g h;exact ha g hgm h hm (pM (kS h) hu (by omega) h2)
theorem Bh{H:List Bs}{n:Bs}(h:∀x∈H,bd n x=false):spec H n=[]:=by
 unfold spec;rw[List.find?_eq_none.2 λx hx=>by rw[h x hx];simp];rfl
def cnt(H:List Bs)(n:Bs):Nat:=(H.takeWhile λc=>decide (bB c n<=0)).length
theorem JJ{H:List Bs}{n:Bs}{k:Nat}(hk:k<=H.length)(hpre:∀c∈H.take k,bB c n<=0):BI H n k=cnt H n:=by
 unfold BI cnt
 conv=>rhs;rw[<- List.take_append_drop k H]
 rw[List.takeWhile_append_of_pos (by intro a ha;simpa using hpre a ha),List.length_append,List.length_take];omega
theorem Kd(H:List Bs)(n:Bs):cnt H n<=H.length:=by
 unfold cnt;exact(List.takeWhile_sublist _).length_le
theorem LJ{α:Type}{p:α->Bool}:∀{l:List α} {x:α},x∈l.takeWhile p->p x=true
 |[],x,h=>by cases h
 |y::t,x,h=>by
  rw[List.takeWhile_cons]at h;split at h
  . rcases List.mem_cons.1 h with rfl|h
    . assumption
    . exact LJ h
  . cases h
theorem CH(H:List Bs)(n:Bs):∀c∈H.take (cnt H n),bB c n<=0:=by
 intro c hc;have:H.take (cnt H n)=H.takeWhile λc=>decide (bB c n<=0):=by
  unfold cnt;exact(List.prefix_iff_eq_take.1 (List.takeWhile_prefix _)).symm
 rw[this]at hc;have:=LJ hc;simpa using this
theorem Oy(H:List Bs)(n:Bs):H.take (cnt H n)=H.takeWhile λc=>decide (bB c n<=0):=by
 unfold cnt;exact(List.prefix_iff_eq_take.1 (List.takeWhile_prefix _)).symm
theorem vK{a b c:Bs}(h:bB a b<0)(k:bB b c<=0):bB a c<=0:=by
 rcases cd.range b c with e|e|e
 . have:=My h (by omega:bB b c<0);omega
 . rw[<- (cd.zero _ _).1 e];omega
 . omega
theorem Mx{a b c:Bs}(h:bB a b<=0)(k:bB b c<=0):bB a c<=0:=by
 rcases cd.range a b with e|e|e
 . exact vK (by omega) k
 . rw[(cd.zero _ _).1 e];exact k
 . omega
theorem Gt{n h:Bs}(hle:bB h n<=0):∀{H:List Bs},Asc H->h∈H->h∈H.takeWhile λc=>decide (bB c n<=0)
 |[],_,hm=>by cases hm
 |x::t,hA,hm=>by
  rcases List.mem_cons.1 hm with rfl|hm
  . rw[List.takeWhile_cons,if_pos (by simpa using hle)];exact List.mem_cons_self ..
  . have hx:=(List.pairwise_cons.1 hA).1 h hm;rw[List.takeWhile_cons,if_pos (by simpa using vK hx hle)];exact bk _ (Gt hle (List.pairwise_cons.1 hA).2 hm)
theorem JQ{H:List Bs}(hA:Asc H)(ha:wD H)(n:Bs):Cv H (cnt H n) n=spec H n:=by
 have hpv:cnt H n≠0->BR H (cnt H n)=my (H.take (cnt H n))/\(H.take (cnt H n)).length≠0:=λh0=>by
  have hl:=Kd H n;have e:(H.take (cnt H n)).length=cnt H n:=by rw[List.length_take];omega
  refine⟨?_,by omega⟩;unfold BR my;rw[e,List.getElem?_take,if_pos (by omega)]
 by_cases hex:∃h∈H,bd n h=true
 . obtain⟨h,hm,hu⟩:=hex;have hmem:=Gt (pL hu) hA hm;rw[<- Oy]at hmem;have h0:cnt H n≠0:=λe=>by rw[e]at hmem;cases hmem
   obtain⟨e1,e2⟩:=hpv h0;have hAt:Asc (H.take (cnt H n)):=hA.sublist (List.take_sublist _ _);have h1:=Cp hAt e2 h hmem;have hgm:=nI e2;have h2:=CH H n _ hgm;have h3:=ha _ (List.mem_of_mem_take hgm) _ hm (pM (kS h) hu h1 h2);have hpos:decide (((cnt H n:Nat):Int)>0)=true:=by simp;omega
   rw[Ai hA ha hm hu,Cv,e1,h3,hu,hpos];rfl
 . have hno:∀x∈H,bd n x=false:=λx hx=>by
    cases hu:bd n x with
    |false=>rfl
    |true=>exact absurd ⟨x,hx,hu⟩ hex
   rw[Bh hno];by_cases h0:cnt H n=0
   . rw[Cv,h0];rfl
   . obtain⟨e1,e2⟩:=hpv h0;rw[Cv,e1,hno _ (List.mem_of_mem_take (nI e2)),kD];rfl
theorem wj{l:List Signed}{x:Signed}(h:fP (x::l)):∀s∈l,bB x.set.name s.set.name<=0:=λs hs=>by
 have hlt:=ma h s hs;unfold cpl lex Signed.place at hlt;simp only at hlt;split at hlt
 . omega
 . omega
theorem Cu{H:List Bs}(hA:Asc H)(ha:wD H):∀(l:List Signed) (k:Nat),fP l->k<=H.length->(∀s∈l,∀c∈H.take k,bB c s.set.name<=0)->bGo H k l=l.map λs=>spec H s.set.name
 |[],_,_,_,_=>rfl
 |s::t,k,hr,hk,hp=>by
  have e:=JJ hk (hp s (List.mem_cons_self ..));rw[bGo,e,JQ hA ha,List.map_cons]
  congr 1
  refine Cu hA ha t _ hr.tail (Kd _ _) λx hx c hc=>?_
  exact Mx (CH _ _ c hc) (wj hr x hx)
theorem yb{z:aD}(h:Ordered z):Asc (dh z)/\wD (dh z)/\ ∀c∈ja z.apex z.sets,∃g∈dh z,bd c g=true:=by
 obtain⟨h1,h2,_,h4⟩:=ud (ja z.apex z.sets) [] (by simpa using CM z.apex z.sets h.rising) (λa ha=>by cases ha);exact⟨h1,h2,h4⟩
theorem tr{z:aD}(h:Ordered z):FW z=z.sets.map λs=>spec (dh z) s.set.name:=by
 obtain⟨h1,h2,_⟩:=yb h;exact Cu h1 h2 z.sets 0 h.rising (by omega) λs _ c hc=>by cases hc
theorem AZ:∀{l:List Signed},fP l->l.Pairwise λa b=>bB a.set.name b.set.name<=0
 |[],_=>List.Pairwise.nil
 |x::t,h=>List.Pairwise.cons (wj h) (AZ h.tail)
theorem wM(apex n:Bs):∀(l:List Signed),eT apex l n=true ↔ n∈ja apex l
 |[]=>by simp[eT,ja]
 |s::t=>by
  have ih:=wM apex n t;unfold eT at ih ⊢;unfold ja;rw[List.any_cons,Bool.or_eq_true,ih];by_cases h:iL apex s=true
  . rw[if_pos h,h,gI,List.mem_cons,beq_iff_eq];exact⟨λk=>k.imp (λe=>e.symm) id,λk=>k.imp (λe=>e.symm) id⟩
  . have h' :iL apex s=false:=by simpa using h
    rw[if_neg h,h'];simp
theorem Ol(H:List Bs)(n:Bs):spec H n=[]\/spec H n∈H:=by
 unfold spec;cases hf:H.find? (λh=>bd n h)with
 |none=>exact .inl rfl
 |some g=>exact .inr (List.mem_of_find?_eq_some hf)
theorem wT{z:aD}{h:Bs}(hm:h∈dh z):h∈ja z.apex z.sets:=by
 rcases Dn _ _ _ hm with q|q
 . cases q
 . exact q
theorem yc{z:aD}(ho:Ordered z){h:Bs}(hm:h∈dh z):aQ h=true:=by
 obtain⟨s,hs,e⟩:=pV _ _ _ (wT hm);rw[<- e];exact ho.name s hs
theorem LD{z:aD}(ho:Ordered z){pre t:List Signed}{s:Signed}{c:Bs}(hz:pre++s::t=z.sets)
 (hc:(pre=[]/\c=[])\/ ∃p y,pre=p++[y]/\c=spec (dh z) y.set.name):jM (eT z.apex z.sets) c s.set.name=spec (dh z) s.set.name:=by
 obtain⟨hA,ha,hcov⟩:=yb ho;have hsm:s∈z.sets:=by rw[<- hz];simp
 have vs:=ho.name s hsm;have hcH:c=[]\/c∈dh z:=by
  rcases hc with ⟨_,e⟩|⟨p,y,_,e⟩
  . exact .inl e
  . rw[e];exact Ol _ _
 have hu:∀h∈dh z,(bo s.set.name h).1=bd s.set.name h:=λh hm=>by
  unfold bo;rw[if_pos ⟨vs,yc ho hm⟩]
 have hne:∀h∈dh z,(h==[])=false:=λh hm=>by
  have:=yc ho hm;cases h with
  |nil=>exact absurd this (by decide)
  |cons=>rfl
 have hpw:=AZ ho.rising;rw[<- hz]at hpw;obtain⟨q1,q2,q3⟩:=List.pairwise_append.1 hpw;by_cases hex:∃h∈dh z,bd s.set.name h=true
 . obtain⟨h,hm,hun⟩:=hex;rw[Ai hA ha hm hun];by_cases hch:c=h
   . subst hch;unfold jM;simp only[hne c hm,hu c hm,hun,qD,kD,uR,eH,if_false]
   . have hnh:s.set.name=h:=by
      refine Classical.byContradiction λhnn=>hch ?_
      have hle:=pL hun;have hlt:bB h s.set.name<0:=by
       rcases cd.range h s.set.name with e|e|e
       . omega
       . exact absurd ((cd.zero _ _).1 e).symm hnn
       . omega
      obtain⟨x,hx,ex⟩:=pV _ _ _ (wT hm);rw[<- hz]at hx;have hxp:x∈pre:=by
       rcases List.mem_append.1 hx with k|k
       . exact k
       . rcases List.mem_cons.1 k with rfl|k
         . exact absurd ex hnn
         . have:=(List.pairwise_cons.1 q2).1 x k;rw[ex]at this;exact absurd this (Ga hlt)
      rcases hc with ⟨e,_⟩|⟨p,y,e,ec⟩
      . rw[e]at hxp;cases hxp
      . have hys:=q3 y (by rw[e];simp) s (List.mem_cons_self ..);have hxy:bB x.set.name y.set.name<=0:=by
         rw[e]at hxp q1;rcases List.mem_append.1 hxp with k|k
         . exact(List.pairwise_append.1 q1).2.2 x k y (by simp)
         . simp at k;subst k;rw[(cd.zero _ _).2 rfl];exact Int.le_refl _
        rw[ex]at hxy;rw[ec,Ai hA ha hm (pM (kS h) hun hxy hys)]
     have hcut:eT z.apex z.sets s.set.name=true:=(wM _ _ _).2 (by rw[hnh];exact wT hm);have hc' :(if (!(c==[])&& !(bo s.set.name c).1)=true then[]else c)=[]:=by
      rcases hcH with e|e
      . subst e;rfl
      . have:bd s.set.name c=false:=by
         cases hk:bd s.set.name c with
         |false=>rfl
         |true=>exact absurd (ha h hm c e (by rw[<- hnh];exact hk)).symm hch
        rw[hne c e,hu c e,this];rfl
     unfold jM;simp only[hc',hcut];exact hnh
 . have hno:∀x∈dh z,bd s.set.name x=false:=λx hx=>by
    cases hk:bd s.set.name x with
    |false=>rfl
    |true=>exact absurd ⟨x,hx,hk⟩ hex
   rw[Bh hno];have hcut:eT z.apex z.sets s.set.name=false:=by
    cases hk:eT z.apex z.sets s.set.name with
    |false=>rfl
    |true =>
     obtain⟨g,hg,hgu⟩:=hcov _ ((wM _ _ _).1 hk);rw[hno g hg]at hgu;cases hgu
   have hc' :(if (!(c==[])&& !(bo s.set.name c).1)=true then[]else c)=[]:=by
    rcases hcH with e|e
    . subst e;rfl
    . rw[hne c e,hu c e,hno c e];rfl
   unfold jM;simp only[hc',hcut];rfl
theorem FY{z:aD}(ho:Ordered z):∀(l pre:List Signed) (c:Bs),pre++l=z.sets->((pre=[]/\c=[])\/ ∃p y,pre=p++[y]/\c=spec (dh z) y.set.name) ->
 bh (eT z.apex z.sets) c l=l.map λs=>spec (dh z) s.set.name
 |[],_,_,_,_=>rfl
 |s::t,pre,c,hz,hc=>by
  rw[bh,LD ho hz hc,List.map_cons]
  congr 1
  exact FY ho t (pre++[s]) _ (by rw[<- hz];simp) (.inr ⟨pre,s,rfl,rfl⟩)
theorem JR{z:aD}(ho:Ordered z):FW z=cU z:=by
 rw[tr ho];exact(FY ho z.sets [] [] rfl (.inl ⟨rfl,rfl⟩)).symm
theorem iS:∀{l:List Signed},fP l-> ∀{i j:Nat} {a b:Signed},i<j->l[i]? =some a->l[j]? =some b->cpl a.place b.place<0
 |[],_,_,_,_,_,_,h,_=>by cases h
 |x::t,hr,i,j,a,b,hij,ha,hb=>by
  cases j with
  |zero=>omega
  |succ j =>
   cases i with
   |zero=>cases ha;exact ma hr b (au hb)
   |succ i=>exact iS hr.tail (by omega) ha hb
theorem mX{a b:Signed}(h:cpl a.place b.place<0):bB a.set.name b.set.name<=0/\(a.set.name=b.set.name->a.set.type<b.set.type):=by
 unfold cpl lex Signed.place at h;simp only at h;split at h
 . rename_i e;refine⟨by omega,λ_=>?_⟩;unfold cY at h;split at h
   . assumption
   . split at h <;> omega
 . rename_i e;exact⟨by omega,λk=>absurd ((cd.zero _ _).2 k) e⟩
theorem OQ{a b:Bs}(h:bB a b<=0)(k:bB b a<=0):a=b:=by
 have:=cd.anti a b;exact(cd.zero _ _).1 (by omega)
theorem Ck{z:aD}{i:Nat}{s p:Signed}(hs:z.sets[i]? =some s)(hp:z.sets[i-1]? =some p) :
 nh z i=false ↔ s.set.type=3/\((0<i/\p.set.name=s.set.name)\/ ∃x,z.sets[i+1]? =some x/\x.set.name=s.set.name/\x.set.type≠8):=by
 simp only[nh,hs,hp,Option.getD_some,Bool.not_eq_false'];unfold tm;by_cases hlt:i+1<z.sets.length
 . obtain⟨x,hx⟩:∃x,z.sets[i+1]? =some x:=⟨_,ai hlt⟩
   have hd:decide (((i:Nat):Int)+1<(z.sets.length:Int))=true:=by simp;omega
   simp[hx,hd]
 . have hx:z.sets[i+1]? =none:=by simp;omega
   have hd:decide (((i:Nat):Int)+1<(z.sets.length:Int))=false:=by simp;omega
   simp[hx,hd]
end NP
