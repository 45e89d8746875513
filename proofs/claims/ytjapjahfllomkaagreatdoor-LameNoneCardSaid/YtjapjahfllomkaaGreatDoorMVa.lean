/-
  Merged texts.
-/
import Derived.Test.YtjapjahfllomkaaGreatDoorTyM
import Derived.Test.YtjapjahfllomkaaGreatDoorMZb
set_option linter.all false
namespace NP
open NQ Go
def bt(d:Datum):List D:=[.str d.text,.int .i64 d.n,.int .i64 d.m]
def mY(g:Sig):List D:=[.str g.zone,.int .i64 g.key,.int .i64 g.alg,.int .i64 g.since,.int .i64 g.till,.int .u64 g.sum]
def mV(s:gG):List D:=[.str s.name,.int .i64 s.type,.int .i64 s.life,.slice 3 (s.data.map bt)]
def az(s:Signed):List D:=[.str s.set.name,.int .i64 s.set.type,.int .i64 s.set.life,.slice 3 (s.set.data.map bt),.slice 6 (s.sigs.map mY)]
def aW(z:aF):List D:=[.str z.apex,.slice 5 (z.sets.map az)]
def cS(q:aV):List D:=[.str q.name,.int .i64 q.type]
def Ds(r:xR):List D:=[.int .i64 r.text,.int .i64 r.leastN,.int .i64 r.mostN,.int .i64 r.leastM,.int .i64 r.mostM,.bool r.even,.bool r.single,.bool r.dL]
end NP
namespace Go.Proofs.YtjapjahfllomkaaGreatDoor
open NQ Go NP Go.RowKit
theorem BD{w:World}{O L:Nat->Prop}{σ:Nat->Value}{a b:AV}{u v:Value}(h1:aw w O L σ a u)(h2:aw w O L σ b v):aw w O L σ (.tuple [a,b]) (.tuple #[u,v]):=by
 refine .tuple _ _ rfl λj c hj=>?_
 rcases j with _|_|j
 . cases hj;exact h1
 . cases hj;exact h2
 . simp at hj
theorem jo(s:Bs):NQ.Fn cx 61 [.str s] (.d (.bool (au s))) []:=by
 refine cQ ⟨_,Tryz.func61,by kernel_rfl,by kernel_rfl⟩ rfl λw vs _ hsz hrep=>?_
 obtain⟨b,hb,rfl⟩:=dz (hrep 0 _ rfl);rw[rk hsz,hb];exact(Gl b w).mono λe w' ⟨he,hbel⟩=>⟨_,he,hbel,.eR _⟩
theorem qB(s:Bs):NQ.Fn cx 62 [.str s] (.d (.bool (au s))) []:=by
 refine cQ ⟨_,Tryz.func62,by kernel_rfl,by kernel_rfl⟩ rfl λw vs _ hsz hrep=>?_
 obtain⟨b,hb,rfl⟩:=dz (hrep 0 _ rfl);rw[rk hsz,hb];exact(pK b w).mono λe w' ⟨he,hbel⟩=>⟨_,he,hbel,.eR _⟩
theorem DC(s:Bs)(hv:au s=true):NQ.Fn cx 185 [.str s] (.d (.bool (fm s))) []:=by
 refine cQ ⟨_,Tryz.func185,by kernel_rfl,by kernel_rfl⟩ rfl λw vs _ hsz hrep=>?_
 obtain⟨b,hb,rfl⟩:=dz (hrep 0 _ rfl);rw[rk hsz,hb];exact(Gi b hv w).mono λe w' ⟨he,hbel⟩=>⟨_,he,hbel,.eR _⟩
theorem um(s:Bs):NQ.Fn cx 220 [.str s] (.d (.bool (fm s))) []:=by
 refine cQ ⟨_,Tryz.func220,by kernel_rfl,by kernel_rfl⟩ rfl λw vs _ hsz hrep=>?_
 obtain⟨b,hb,rfl⟩:=dz (hrep 0 _ rfl);rw[rk hsz,hb];exact(yu b w).mono λe w' ⟨he,hbel⟩=>⟨_,he,hbel ▸ Below.refl _ _,.eR _⟩
theorem om(s:Bs):NQ.Fn cx 90 [.str s] (.tuple [.d (.str (dQ s).1),.d (.int .i64 (dQ s).2)]) []:=by
 refine cQ ⟨_,Tryz.func90,by kernel_rfl,by kernel_rfl⟩ rfl λw vs _ hsz hrep=>?_
 obtain⟨b,hb,rfl⟩:=dz (hrep 0 _ rfl);rw[rk hsz,hb];exact(DA b w).mono λe w' ⟨he,hbel⟩=>⟨_,he,hbel,BD (.d _ _ (.str _ _ (S_mk _))) (.mkInt _ _)⟩
theorem pL(s z:Bs):NQ.Fn cx 89 [.str s,.str z] (.tuple [.d (.bool (bz s z).1),.d (.int .i64 (bz s z).2)]) []:=by
 refine cQ ⟨_,Tryz.func89,by kernel_rfl,by kernel_rfl⟩ rfl λw vs _ hsz hrep=>?_
 obtain⟨b,hb,rfl⟩:=dz (hrep 0 _ rfl);obtain⟨c,hc,rfl⟩:=dz (hrep 1 _ rfl);rw[rl hsz,hb,hc];exact(Gk b c w).mono λe w' ⟨he,hbel⟩=>⟨_,he,hbel,BD (.eR _) (.mkInt _ _)⟩
theorem oU(s z:Bs):NQ.Fn cx 112 [.str s,.str z] (.tuple [.d (.int .i64 (cy s z).1),.d (.int .i64 (cy s z).2)]) []:=by
 refine cQ ⟨_,Tryz.func112,by kernel_rfl,by kernel_rfl⟩ rfl λw vs _ hsz hrep=>?_
 obtain⟨b,hb,rfl⟩:=dz (hrep 0 _ rfl);obtain⟨c,hc,rfl⟩:=dz (hrep 1 _ rfl);rw[rl hsz,hb,hc];exact(CP b c w).mono λe w' ⟨he,hbel⟩=>⟨_,he,hbel,BD (.mkInt _ _) (.mkInt _ _)⟩
theorem ux(s z:Bs)(hs:s.length<=60)(hz:z.length<=60):NQ.Fn cx 142 [.str s,.str z] (.d (.bool (aH s z))) []:=by
 refine cQ ⟨_,Tryz.func142,by kernel_rfl,by kernel_rfl⟩ rfl λw vs _ hsz hrep=>?_
 obtain⟨b,hb,rfl⟩:=dz (hrep 0 _ rfl);obtain⟨c,hc,rfl⟩:=dz (hrep 1 _ rfl);rw[rl hsz,hb,hc];exact(Lp b c (by simpa using hs) (by simpa using hz) w).mono λe w' ⟨he,hbel⟩=>⟨_,he,hbel,.eR _⟩
theorem uz(s z:Bs)(hs:s.length<=60)(hz:z.length<=60):NQ.Fn cx 20 [.str s,.str z] (.d (.int .i64 (aI s z))) []:=by
 refine cQ ⟨_,Tryz.func20,by kernel_rfl,by kernel_rfl⟩ rfl λw vs _ hsz hrep=>?_
 obtain⟨b,hb,rfl⟩:=dz (hrep 0 _ rfl);obtain⟨c,hc,rfl⟩:=dz (hrep 1 _ rfl);rw[rl hsz,hb,hc];exact(uy b c (by simpa using hs) (by simpa using hz) w).mono λe w' ⟨he,hbel⟩=>⟨_,he,hbel,.mkInt _ _⟩
theorem Gh(s z:Bs)(hs:au s=true)(hz:au z=true):NQ.Fn cx 294 [.str s,.str z] (.tuple [.d (.int .i64 (aI s z)),.d (.int .i64 0)]) []:=by
 refine cQ ⟨_,Tryz.func294,by kernel_rfl,by kernel_rfl⟩ rfl λw vs _ hsz hrep=>?_
 obtain⟨b,hb,rfl⟩:=dz (hrep 0 _ rfl);obtain⟨c,hc,rfl⟩:=dz (hrep 1 _ rfl);rw[rl hsz,hb,hc];exact(AK b c hs hz w).mono λe w' ⟨he,hbel⟩=>⟨_,he,hbel,BD (.mkInt _ _) (.mkInt _ _)⟩
theorem CM(x lo hi:Int):NQ.Fn cx 219 [.int .i64 x,.int .i64 lo,.int .i64 hi] (.d (.bool (within x lo hi))) []:=by
 refine cQ ⟨_,Tryz.func219,by kernel_rfl,by kernel_rfl⟩ rfl λw vs _ hsz hrep=>?_
 rw[Ul hsz,wO (hrep 0 _ rfl),wO (hrep 1 _ rfl),wO (hrep 2 _ rfl)];exact(jO x lo hi w).mono λe w' ⟨he,hbel⟩=>⟨_,he,hbel ▸ Below.refl _ _,.eR _⟩
theorem Pv(x:Int):NQ.Fn cx 179 [.int .i64 x] (.d (.bool false)) []:=by
 refine aA aO mixed Tryz.func179 (by kernel_rfl) rfl (ah rfl) ?_;conv=>whnf
 repeat' (first|(refine ae (λh=>?_) (λh=>?_) <;> (rw[h];conv=>whnf))|fail)
 all_goals (refine af rfl ?_;simp[D.cY])
theorem ot(x y:Int):NQ.Fn cx 104 [.int .i64 x,.int .i64 y] (.d (.int .i64 (cZ x y))) []:=by
 refine aA aO mixed Tryz.func104 (by kernel_rfl) rfl (ah rfl) ?_;conv=>whnf
 repeat' (first|(refine⟨_,_,Pv _,?_⟩;conv=>whnf)|(refine ae (λh=>?_) (λh=>?_) <;> (rw[h];conv=>whnf))|fail)
 all_goals (refine af rfl ?_;simp_all [D.cY,cZ];try omega)
theorem DS(x y:Bs):NQ.Fn cx 282 [.str x,.str y] (.d (.int .i64 (Go.Lib.compareBytes x y))) []:=by
 refine cQ ⟨_,Tryz.func282,by kernel_rfl,by kernel_rfl⟩ rfl λw vs _ hsz hrep=>?_
 obtain⟨b,hb,rfl⟩:=dz (hrep 0 _ rfl);obtain⟨c,hc,rfl⟩:=dz (hrep 1 _ rfl);rw[rl hsz,hb,hc];exact(zw b c w).mono λe w' ⟨he,hbel⟩=>⟨_,he,hbel ▸ Below.refl _ _,.mkInt _ _⟩
end Go.Proofs.YtjapjahfllomkaaGreatDoor
set_option maxRecDepth 100000
namespace NP
open NQ Go
def jL(l:List Int):Int:=(l.find? (· != 0)).getD 0
theorem Ha{l:List Int}{k:Nat}(h:(List.range k).all (λi=>(l[i]?.getD 0)==0)=true)(hk:l.length<=k):jL l=0:=by
 have:l.find? (· != 0)=none:=by
  rw[List.find?_eq_none];intro x hx;obtain⟨j,hj,rfl⟩:=List.getElem_of_mem hx;have:=ax.1 h j (List.mem_range.2 (by omega));simpa [hj] using this
 rw[jL,this];rfl
theorem Hb{l:List Int}:∀{k:Nat} {x:Int},(List.range k).all (λi=>(l[i]?.getD 0)==0)=true->l[k]? =some x->x≠0->jL l=x:=by
 induction l with
 |nil=>intro k x _ h;simp at h
 |cons a t ih =>
  intro k x h hx h0;cases k with
  |zero=>simp at hx;subst hx;simp[jL,h0]
  |succ k =>
   have ha:a=0:=by have:=ax.1 h 0 (List.mem_range.2 (by omega));simpa using this
   have:=ih (k:=k) (x:=x) (ax.2 λi hi=>by
    have:=ax.1 h (i+1) (List.mem_range.2 (by have:=List.mem_range.1 hi;omega));simpa using this) (by simpa using hx) h0
   simpa [jL,ha] using this
theorem IG(x y z:Int):jL [x,y,z]=if x=0 then(if y=0 then z else y)else x:=by
 by_cases hx:x=0 <;> by_cases hy:y=0 <;> by_cases hz:z=0 <;> simp[jL,hx,hy,hz]
end NP
namespace Go.Proofs.YtjapjahfllomkaaGreatDoor
open NQ Go NP Go.RowKit
theorem MA(s:Bs):NQ.Fn cx 281 [.str s] (.d (.bool (bW s))) []:=by
 refine cQ ⟨_,Tryz.func281,by kernel_rfl,by kernel_rfl⟩ rfl λw vs _ hsz hrep=>?_
 obtain⟨b,hb,rfl⟩:=dz (hrep 0 _ rfl);rw[rk hsz,hb];exact(EI b w).mono λe w' ⟨he,hbel⟩=>⟨_,he,hbel ▸ Below.refl _ _,.eR _⟩
theorem Dd(r:xR)(d:Datum):NQ.Fn cx 221 [.agg (Ds r),.agg (bt d)] (.d (.bool (dZ r d))) []:=by
 refine aA aO mixed Tryz.func221 (by kernel_rfl) rfl (ah rfl) ?_;conv=>whnf
 repeat' (first|(refine⟨_,_,CM _ _ _,?_⟩;conv=>whnf)|(refine⟨_,_,um _,?_⟩;conv=>whnf)|(refine⟨_,_,jo _,?_⟩;conv=>whnf)|(refine⟨_,_,MA _,?_⟩;conv=>whnf)|(refine ae (λh=>?_) (λh=>?_) <;> (rw[h];conv=>whnf))|fail)
 all_goals
  refine af rfl ?_;simp only[D.cY,dZ,jk]
  simp_all
def bd(n:Int):List D:=[.int .i64 n]
theorem Kq(l:List Int)(hl:l.length<=1000):NQ.Fn cx 103 [.slice 1 (l.map bd)] (.d (.int .i64 (jL l))) []:=by
 refine aA aO mixed Tryz.func103 (by kernel_rfl) rfl (ah rfl) ?_;conv=>whnf
 refine⟨Nat,λk=>⟨[(0,.d (.slice 1 (l.map bd))),(3,.d (.int .i64 0)),(6,.d (.slice 1 (l.map bd))),(7,.d (.int .i64 ((l.map bd).length:Int))),(8,.d (.int .i64 k))],[]⟩,
  λk=>k<=l.length/\(List.range k).all (λi=>(l[i]?.getD 0)==0)=true,λk=>l.length-k,⟨0,⟨by omega,rfl⟩,aj.keep ⟨ab,ab,ab,ab,ab,trivial⟩ trivial⟩,λk ⟨hk,hall⟩=>?_⟩
 conv=>whnf
 refine ae (λh1=>?_) (λh1=>?_) <;> (rw[h1];conv=>whnf)
 . have hlt:k<l.length:=by simp at h1;omega
   obtain⟨g,hg⟩:∃g,l[k]? =some g:=⟨_,ag hlt⟩
   refine⟨av k,bd g,aC hg,?_⟩
   conv=>whnf
   refine ae (λh=>?_) (λh=>?_) <;> (rw[h];conv=>whnf)
   . refine af rfl ?_;rw[Hb hall hg (by simpa using h)];rfl
   . refine⟨k+1,⟨by omega,?_⟩,by(show l.length-(k+1)<l.length-k;omega),aj.keep ⟨ab,ab,ab,ab,⟨ao (by omega),rfl⟩,trivial⟩ trivial⟩;rw[bR,hall,hg];simpa using h
 . refine af rfl ?_;rw[Ha hall (by simp at h1;omega)];rfl
theorem AX(a b:Datum):NQ.Fn cx 222 [.agg (bt a),.agg (bt b)] (.d (.int .i64 (pA a b))) []:=by
 refine aA aO mixed Tryz.func222 (by kernel_rfl) rfl (ah rfl) ?_;conv=>whnf
 repeat' (first|(refine⟨(by kernel_rfl:bf _ _=true),?_⟩;conv=>whnf)|(refine⟨_,_,DS _ _,?_⟩;conv=>whnf)|(refine⟨_,_,ot _ _,?_⟩;conv=>whnf)|fail)
 refine⟨_,Kq [_,_,_] (by simp),rfl,?_⟩
 conv=>whnf
 refine af rfl ?_;rw[IG];rfl
end Go.Proofs.YtjapjahfllomkaaGreatDoor
namespace NP
open NQ Go
def mK(r:xR)(i:Nat)(d p:Datum):Bool:= !dZ r d||(decide ((i:Int)>0)&&decide (pA p d>=0))
def nQ(r:xR)(l:List Datum)(i:Nat):Bool:=match l[i]?, l[i-1]? with|some d,some p=> !mK r i d p|_,_=>false
theorem tk{r:xR}{l:List Datum}{i:Nat}{d p:Datum}(h1:l[i]? =some d)(h2:l[i-1]? =some p):nQ r l i= !mK r i d p:=by simp only[nQ,h1,h2]
def dP(s:gG):Bool :=
 !((!au s.name|| !within s.type 1 8|| !within s.life 0 100000)|| !within s.data.length 1 8 ||
  (((eG s.type).single&&((s.data.length:Int) != 1))||(fm s.name&& !(eG s.type).dL)))&&(List.range s.data.length).all (nQ (eG s.type) s.data)
end NP
namespace Go.Proofs.YtjapjahfllomkaaGreatDoor
open NQ Go NP Go.RowKit
theorem KF{t:Int}(h:within t 1 8=true):0<=t/\t<9/\ ∃rest,Aj.drop (t.toNat*8)=Ds (eG t)++rest:=by
 simp[within]at h;refine⟨by omega,by omega,?_⟩;have:t=1\/t=2\/t=3\/t=4\/t=5\/t=6\/t=7\/t=8:=by omega
 rcases this with rfl|rfl|rfl|rfl|rfl|rfl|rfl|rfl <;> exact⟨_,rfl⟩
theorem xx(s:gG):NQ.Fn cx 175 [.agg (mV s)] (.d (.bool (dP s))) []:=by
 refine aA aO mixed Tryz.func175 (by kernel_rfl) rfl (ah rfl) ?_;conv=>whnf
 repeat' (first|(refine⟨_,_,CM _ _ _,?_⟩;conv=>whnf)|(refine⟨_,_,jo _,?_⟩;conv=>whnf)|(refine ae (λh=>?_) (λh=>?_) <;> (rw[h];conv=>whnf))|(refine af rfl ?_;show AV.d (D.bool false)=_;(try simp only[ak]at *);simp only[dP, *, if_true,if_false,aD];done)|fail)
 have ht:within s.type 1 8=true:=by simp_all
 obtain⟨t1,t2,rest,hrest⟩:=KF ht;refine⟨t1,t2,?_⟩;show iz (some (AV.d (.ptr (Aj.drop (s.type.toNat*8))))) _
 rw[hrest];generalize hr:eG s.type=r
 conv=>whnf
 repeat' (first|(refine⟨_,_,um _,?_⟩;conv=>whnf)|(refine ae (λh=>?_) (λh=>?_) <;> (rw[h];conv=>whnf))|(refine af rfl ?_;show AV.d (D.bool false)=_;(try simp only[ak]at *);simp only[dP, *, if_true,if_false,aD];done)|fail)
 all_goals
  have hn:s.data.length<=8:=by simp[within]at *; omega
  have hyes:dP s=(List.range s.data.length).all (nQ r s.data):=by
   simp only[ak]at *;simp only[dP, *, if_true,if_false,aD]
  refine⟨Nat,λk=>⟨[(1,.ptr 1 0),(3,.ptr 3 0),(50,.d (.slice 3 (s.data.map bt))),(51,.d (.int .i64 ((s.data.map bt).length:Int))),(52,.d (.int .i64 k))],[(1,.box ((mV s).map .d)),(3,.box ((Ds r).map .d))]⟩,
   λk=>k<=s.data.length/\(List.range k).all (nQ r s.data)=true,λk=>s.data.length-k,⟨0,⟨by omega,rfl⟩,aj.keep ⟨ab,ab,ab,ab,ab,trivial⟩ ⟨ab,⟨(by first|rfl|(show some (Blk.box [_,_,_,_,_,_,_,_])=_;simp only[Ds,List.map_cons,List.map_nil, *])),rfl⟩,trivial⟩⟩,λk ⟨hk,hall⟩=>?_⟩
  conv=>whnf
  refine ae (λh1=>?_) (λh1=>?_) <;> (rw[h1];conv=>whnf)
  . have hlt:k<s.data.length:=by simp at h1;omega
    obtain⟨g,hg⟩:∃g,s.data[k]? =some g:=⟨_,ag hlt⟩
    obtain⟨p,hp⟩:∃p,s.data[k-1]? =some p:=⟨_,ag (by omega)⟩
    have hat:=tk (r:=r) hg hp;have hno:nQ r s.data k=false->dP s=false:=λhh=>by rw[hyes,bI hlt hh]
    refine⟨av k,bt g,aC hg,?_⟩
    conv=>whnf
    repeat' (first
     |(refine⟨(by kernel_rfl:bf _ _=true),?_⟩;conv=>whnf)
     |(refine⟨_,_,Dd r g,?_⟩;conv=>whnf)
     |(refine⟨_,_,AX p g,?_⟩;conv=>whnf)
     |(refine ae (λh=>?_) (λh=>?_) <;> (rw[h];conv=>whnf))
     |(refine⟨(ik (by assumption) (by omega)).1,bt p,eE (by assumption) (by omega) hp,?_⟩;conv=>whnf)
     |fail)
    all_goals first
     |(refine af rfl ?_;show AV.d (D.bool false)=_;rw[hno (by rw[hat];simp only[mK, *, if_true,if_false,aD])])
     |(refine⟨k+1,⟨by omega,?_⟩,by(show s.data.length-(k+1)<s.data.length-k;omega),aj.keep ⟨ab,ab,ab,ab,⟨ao (by omega),rfl⟩,trivial⟩ ⟨ab,ab,trivial⟩⟩;rw[bR,hall,hat];simp only[mK, *, if_true,if_false,aD])
     |fail
  . refine af rfl ?_;obtain rfl:k=s.data.length:=by simp at h1;omega
    show AV.d (D.bool true)=_
    rw[hyes,hall]
end Go.Proofs.YtjapjahfllomkaaGreatDoor
namespace NP
open NQ Go
def qF(a:Bs)(s:Int)(b:Bs)(t:Int):Int:=if a=b then cZ s t else(cy a b).1
def fits(t:Int)(ap:Bool):Bool:=if t=3\/t=6 then !ap else if t=4\/t=7 then ap else true
def oF(i:Nat)(apex:Bs)(g f p:Sig):Bool :=
 !(g.zone==apex)||decide (g.key<1)||decide (g.key>1000000)||decide (g.alg<1)||decide (g.alg>3)||(decide (g.since<0)||decide (g.since>g.till)||decide (g.till>20000000)) ||
  (decide ((i:Int)>0)&&(g.since != f.since||g.till != f.till||decide (g.key<=p.key)))
def nW(l:List Sig)(apex:Bs)(i:Nat):Bool :=
 match l[i]?, l[0]?, l[i-1]? with
 |some g,some f,some p=> !oF i apex g f p
 |_,_,_=>false
theorem Qh{l:List Sig}{apex:Bs}{k:Nat}{g f p:Sig}(hg:l[k]? =some g)(hf:l[0]? =some f)(hp:l[k-1]? =some p):nW l apex k= !oF k apex g f p:=by
 simp only[nW,hg,hf,hp]
def fZ(l:List Sig)(apex:Bs):Bool:= !decide ((l.length:Int)>6)&&(List.range l.length).all (nW l apex)
end NP
namespace Go.Proofs.YtjapjahfllomkaaGreatDoor
open NQ Go NP Go.RowKit
theorem pN(a:Bs)(s:Int)(b:Bs)(t:Int):NQ.Fn cx 164 [.str a,.int .i64 s,.str b,.int .i64 t] (.d (.int .i64 (qF a s b t))) []:=by
 refine aA aO mixed Tryz.func164 (by kernel_rfl) rfl (ah rfl) ?_;conv=>whnf
 repeat' (first|(refine ae (λh=>?_) (λh=>?_) <;> (rw[h];conv=>whnf))|(refine⟨_,_,oU _ _,?_⟩;conv=>whnf)|(refine⟨_,_,ot _ _,?_⟩;conv=>whnf)|fail)
 all_goals (refine af rfl ?_;simp_all [D.cY,qF])
theorem GA(t:Int)(ap:Bool):NQ.Fn cx 214 [.int .i64 t,.bool ap] (.d (.bool (fits t ap))) []:=by
 refine aA aO mixed Tryz.func214 (by kernel_rfl) rfl (ah rfl) ?_;conv=>whnf
 repeat' (first|(refine ae (λh=>?_) (λh=>?_) <;> (rw[h];conv=>whnf))|fail)
 all_goals (refine af rfl ?_;simp_all [D.cY,fits])
theorem Mx(l:List Sig)(apex:Bs):NQ.Fn cx 215 [.slice 6 (l.map mY),.str apex] (.d (.bool (fZ l apex))) []:=by
 refine aA aO mixed Tryz.func215 (by kernel_rfl) rfl (ah rfl) ?_;conv=>whnf
 refine ae (λh=>?_) (λh=>?_) <;> (rw[h];conv=>whnf)
 . (refine af rfl ?_;show AV.d (D.bool false)=_;(try simp only[ak]at *);simp only[fZ, *, if_true,if_false,aD];done)
 . have hl:l.length<=6:=by simp at h;omega
   have hyes:fZ l apex=(List.range l.length).all (nW l apex):=by
    simp only[ak]at h;simp only[fZ,h,if_true,if_false,aD]
   refine⟨Nat,λk=>⟨[(0,.d (.slice 6 (l.map mY))),(1,.d (.str apex)),(10,.d (.slice 6 (l.map mY))),(11,.d (.int .i64 ((l.map mY).length:Int))),(12,.d (.int .i64 k))],[]⟩,λk=>k<=l.length/\(List.range k).all (nW l apex)=true,λk=>l.length-k,⟨0,⟨by omega,rfl⟩,aj.keep ⟨ab,ab,ab,ab,ab,trivial⟩ trivial⟩,λk ⟨hk,hall⟩=>?_⟩
   conv=>whnf
   refine ae (λh1=>?_) (λh1=>?_) <;> (rw[h1];conv=>whnf)
   . have hlt:k<l.length:=by simp at h1;omega
     obtain⟨g,hg⟩:∃g,l[k]? =some g:=⟨_,ag hlt⟩
     obtain⟨f,hf⟩:∃f,l[0]? =some f:=⟨_,ag (by omega)⟩
     obtain⟨p,hp⟩:∃p,l[k-1]? =some p:=⟨_,ag (by omega)⟩
     have hat:=Qh (apex:=apex) hg hf hp;have hno:nW l apex k=false->fZ l apex=false:=λhh=>by rw[hyes,bI hlt hh]
     refine⟨av k,mY g,aC hg,?_⟩
     conv=>whnf
     repeat' (first
      |(refine ae (λh=>?_) (λh=>?_) <;> (rw[h];conv=>whnf))
      |(refine⟨(by kernel_rfl:bf _ _=true),?_⟩;conv=>whnf)
      |(refine⟨(by decide:(0:Int)<=0),mY f,aC hf,?_⟩;conv=>whnf)
      |(refine⟨(ik (by assumption) (by omega)).1,mY p,eE (by assumption) (by omega) hp,?_⟩;conv=>whnf)
      |fail)
     all_goals first
      |(refine af rfl ?_;show AV.d (D.bool false)=_;rw[hno (by rw[hat];simp only[oF, *, if_true,if_false,aD])])
      |(refine⟨k+1,⟨by omega,?_⟩,by(show l.length-(k+1)<l.length-k;omega),aj.keep ⟨ab,ab,ab,ab,⟨ao (by omega),rfl⟩,trivial⟩ trivial⟩;rw[bR,hall,hat];simp only[oF, *, if_true,if_false,aD])
      |fail
   . refine af rfl ?_;obtain rfl:k=l.length:=by simp at h1;omega
     show AV.d (D.bool true)=_
     rw[hyes,hall]
theorem En(s:Signed)(q:aV):NQ.Fn cx 163 [.agg (az s),.agg (cS q)] (.d (.int .i64 (qF s.set.name s.set.type q.name q.type))) []:=by
 refine aA aO mixed Tryz.func163 (by kernel_rfl) rfl (ah rfl) ?_;conv=>whnf
 (refine⟨_,_,pN _ _ _ _,?_⟩;conv=>whnf)
 exact af rfl rfl
end Go.Proofs.YtjapjahfllomkaaGreatDoor
namespace NP
open NQ Go
def plc(s:Signed)(q:aV):Int:=qF s.set.name s.set.type q.name q.type
def Split(l:List Signed)(q:aV)(c:Nat):Prop:=c<=l.length/\(∀i s,l[i]? =some s->i<c->plc s q<0)/\(∀i s,l[i]? =some s->c<=i->0<=plc s q)
def foundAt(l:List Signed)(q:aV)(c:Nat):Bool:=match l[c]? with|some s=>plc s q==0|none=>false
theorem EY{i j:Nat}(h:i+j<=1000000000):IntKind.i64.wrap ((IntKind.u64.wrap (IntKind.i64.wrap ((i:Int)+(j:Int)))).fdiv (2 ^ min (Int.toNat 1) IntKind.u64.bits))=(((i+j) / 2:Nat):Int):=by
 rw[show((2:Int) ^ min (Int.toNat 1) IntKind.u64.bits)=2 from rfl];have h1:IntKind.i64.wrap ((i:Int)+(j:Int))=((i+j:Nat):Int):=by rw[wrap_i64 (by omega) (by omega)];omega
 have h2:IntKind.u64.wrap ((i+j:Nat):Int)=((i+j:Nat):Int):=by simp[IntKind.wrap,IntKind.signed,IntKind.bits];omega
 rw[h1,h2,Int.fdiv_eq_ediv_of_nonneg _ (by decide),wrap_i64 (by omega) (by omega)];omega
end NP
namespace Go.Proofs.YtjapjahfllomkaaGreatDoor
open NQ Go NP Go.RowKit
theorem Ni(l:List Signed)(q:aV)(c:Nat)(hl:l.length<=100000)(hc:Split l q c) :
 NQ.Fn cx 162 [.slice 5 (l.map az),.agg (cS q),.fn 163 [] []] (.tuple [.d (.int .i64 c),.d (.bool (foundAt l q c))]) []:=by
 refine aA aO mixed Tryz.func162 (by kernel_rfl) rfl (ah rfl) ?_;conv=>whnf
 refine⟨Nat×Nat,λx=>⟨[(0,.d (.slice 5 (l.map az))),(2,.d (.fn 163 [] [])),(4,.ptr 4 0),(8,.d (.int .i64 ((l.map az).length:Int))),(9,.d (.int .i64 x.1)),(10,.d (.int .i64 x.2))],[(4,.box ((cS q).map .d))]⟩,
  λx=>x.1<=c/\c<=x.2/\x.2<=l.length,λx=>x.2-x.1,⟨(0,l.length),⟨by omega,hc.1,by omega⟩,aj.keep ⟨ab,ab,ab,ab,ab,⟨(by show AV.d (D.int _ _)=_;simp),rfl⟩,trivial⟩ ⟨ab,trivial⟩⟩,λ⟨i,j⟩ ⟨h1,h2,h3⟩=>?_⟩
 dsimp only at h1 h2 h3 ⊢
 conv=>whnf
 refine ae (λh=>?_) (λh=>?_) <;> (rw[h];conv=>whnf)
 . have hij:i<j:=by simp at h;omega
   (refine⟨(by kernel_rfl:bf _ _=true),?_⟩;conv=>whnf)
   rw[EY (by omega)];obtain⟨s,hs⟩:∃s,l[(i+j) / 2]? =some s:=⟨_,ag (by omega)⟩
   refine⟨av _,az s,aC hs,?_⟩
   conv=>whnf
   (refine⟨_,_,En s q,?_⟩;conv=>whnf)
   refine ae (λh=>?_) (λh=>?_) <;> (rw[h];conv=>whnf)
   . have hlt:(i+j) / 2<c:=by
      rcases Nat.lt_or_ge ((i+j) / 2) c with hh|hh
      . exact hh
      . have:=hc.2.2 _ s hs hh;simp[plc]at h this;omega
     exact⟨((i+j) / 2+1,j),⟨by dsimp only;omega,h2,h3⟩,by dsimp only;omega,aj.keep ⟨ab,ab,ab,ab,⟨ao (by omega),rfl⟩,ab,trivial⟩ ⟨ab,trivial⟩⟩
   . have hge:c<=(i+j) / 2:=by
      rcases Nat.lt_or_ge ((i+j) / 2) c with hh|hh
      . have:=hc.2.1 _ s hs hh;simp[plc]at h this;omega
      . exact hh
     exact⟨(i,(i+j) / 2),⟨h1,hge,by dsimp only;omega⟩,by dsimp only;omega,aj.keep ⟨ab,ab,ab,ab,ab,ab,trivial⟩ ⟨ab,trivial⟩⟩
 . obtain rfl:i=c:=by simp at h;omega
   clear h
   (refine⟨(by kernel_rfl:bf _ _=true),?_⟩;conv=>whnf)
   refine ae (λh=>?_) (λh=>?_) <;> (rw[h];conv=>whnf)
   . have hlt:i<l.length:=by simp at h;omega
     obtain⟨s,hs⟩:∃s,l[i]? =some s:=⟨_,ag hlt⟩
     refine⟨av _,az s,aC hs,?_⟩
     conv=>whnf
     (refine⟨_,_,En s q,?_⟩;conv=>whnf)
     refine af rfl ?_;show AV.tuple [AV.d (.int .i64 i),AV.d (.bool _)]=_
     simp[foundAt,plc,hs]
   . refine af rfl ?_;show AV.tuple [AV.d (.int .i64 i),AV.d (.bool _)]=_
     have:l[i]? =none:=by simp at h;simp;omega
     simp[foundAt,this]
theorem RC(z:aF)(q:aV)(c:Nat)(hl:z.sets.length<=100000)(hc:Split z.sets q c) :
 NQ.Fn cx 87 [.agg (aW z),.agg (cS q)] (.tuple [.d (.int .i64 c),.d (.bool (foundAt z.sets q c))]) []:=by
 refine aA aO mixed Tryz.func87 (by kernel_rfl) rfl (ah rfl) ?_;conv=>whnf
 (refine⟨_,_,Ni z.sets q c hl hc,?_⟩;conv=>whnf)
 exact af rfl rfl
end Go.Proofs.YtjapjahfllomkaaGreatDoor
namespace NP
open NQ Go
def lL(apex:Bs)(i:Nat)(s p:Signed):Bool:= !dP s.set|| !(bz s.set.name apex).1||(!((i:Int)==0)&&decide (qF p.set.name p.set.type s.set.name s.set.type>=0))
def qS(z:aF)(i:Nat):Bool:=match z.sets[i]?, z.sets[i-1]? with|some s,some p=> !lL z.apex i s p|_,_=>false
theorem qi{z:aF}{i:Nat}{s p:Signed}(h1:z.sets[i]? =some s)(h2:z.sets[i-1]? =some p):qS z i= !lL z.apex i s p:=by simp only[qS,h1,h2]
def ordered(z:aF):Bool:= !((!au z.apex||fm z.apex)||decide ((z.sets.length:Int)>20000))&&(List.range z.sets.length).all (qS z)
theorem Ip{k:Nat}(h:((k:Int)==0)=false):decide ((k:Int)>0)=true:=by simp at h ⊢;omega
end NP
namespace Go.Proofs.YtjapjahfllomkaaGreatDoor
open NQ Go NP Go.RowKit
theorem Hm(s:Bs):Go.Lib.hasPrefix s [42]=fm s:=by
 unfold Go.Lib.hasPrefix fm;cases s with
 |nil=>rfl
 |cons c t=>simp only[List.isPrefixOf,List.head?_cons];rw[Bool.eq_iff_iff];simp;exact eq_comm
theorem SA(s:Bs):NQ.Fn cx 213 [.str s,.str [42]] (.d (.bool (fm s))) []:=by
 refine cQ ⟨_,Tryz.func213,by kernel_rfl,by kernel_rfl⟩ rfl λw vs _ hsz hrep=>?_
 obtain⟨b,hb,rfl⟩:=dz (hrep 0 _ rfl);obtain⟨c,hc,hc'⟩:=dz (hrep 1 _ rfl);rw[rl hsz,hb,hc];refine(Tryz.strings_HasPrefix _ _ _).mono ?_;rintro e w' ⟨rfl,rfl⟩;rw[hc',Hm];exact⟨_,rfl,Below.refl _ _,.eR _⟩
theorem Ks(z:aF):NQ.Fn cx 155 [.agg (aW z)] (.d (.bool (ordered z))) []:=by
 refine aA aO mixed Tryz.func155 (by kernel_rfl) rfl (ah rfl) ?_;conv=>whnf
 repeat' (first|(refine⟨_,_,jo _,?_⟩;conv=>whnf)|(refine⟨_,_,SA _,?_⟩;conv=>whnf)|(refine ae (λh=>?_) (λh=>?_) <;> (rw[h];conv=>whnf))|(refine af rfl ?_;show AV.d (D.bool false)=_;(try simp only[ak]at *);simp only[ordered, *, if_true,if_false,aD];done)|fail)
 have hn:z.sets.length<=20000:=by simp at *; omega
 have hyes:ordered z=(List.range z.sets.length).all (qS z):=by
  simp only[ak]at *;simp only[ordered, *, if_true,if_false,aD]
 refine⟨Nat,λk=>⟨[(1,.ptr 1 0),(28,.d (.slice 5 (z.sets.map az))),(29,.d (.int .i64 ((z.sets.map az).length:Int))),(30,.d (.int .i64 k))],[(1,.box ((aW z).map .d))]⟩,
  λk=>k<=z.sets.length/\(List.range k).all (qS z)=true,λk=>z.sets.length-k,⟨0,⟨by omega,rfl⟩,aj.keep ⟨ab,ab,ab,ab,trivial⟩ ⟨ab,trivial⟩⟩,λk ⟨hk,hall⟩=>?_⟩
 conv=>whnf
 refine ae (λh1=>?_) (λh1=>?_) <;> (rw[h1];conv=>whnf)
 . have hlt:k<z.sets.length:=by simp at h1;omega
   obtain⟨s,hs⟩:∃s,z.sets[k]? =some s:=⟨_,ag hlt⟩
   obtain⟨p,hp⟩:∃p,z.sets[k-1]? =some p:=⟨_,ag (by omega)⟩
   have hat:=qi hs hp;have hno:qS z k=false->ordered z=false:=λhh=>by rw[hyes,bI hlt hh]
   refine⟨av k,az s,aC hs,?_⟩
   conv=>whnf
   repeat' (first
    |(refine⟨_,_,xx s.set,?_⟩;conv=>whnf)
    |(refine⟨_,_,pL _ _,?_⟩;conv=>whnf)
    |(refine⟨_,_,pN _ _ _ _,?_⟩;conv=>whnf)
    |(refine ae (λh=>?_) (λh=>?_) <;> (rw[h];conv=>whnf))
    |(refine⟨(by kernel_rfl:bf _ _=true),?_⟩;conv=>whnf)
    |(refine⟨(ik (Ip (by assumption)) (by omega)).1,az p,eE (Ip (by assumption)) (by omega) hp,?_⟩;conv=>whnf)
    |fail)
   all_goals first
    |(refine af rfl ?_;show AV.d (D.bool false)=_;rw[hno (by rw[hat];simp only[lL, *, if_true,if_false,aD])])
    |(refine⟨k+1,⟨by omega,?_⟩,by(show z.sets.length-(k+1)<z.sets.length-k;omega),aj.keep ⟨ab,ab,ab,⟨ao (by omega),rfl⟩,trivial⟩ ⟨ab,trivial⟩⟩;rw[bR,hall,hat];simp only[lL, *, if_true,if_false,aD])
    |fail
 . refine af rfl ?_;obtain rfl:k=z.sets.length:=by simp at h1;omega
   show AV.d (D.bool true)=_
   rw[hyes,hall]
end Go.Proofs.YtjapjahfllomkaaGreatDoor
namespace NP
open NQ Go
def jv(z:aF)(i:Nat):Bool:=match z.sets[i]? with|some s=>fits s.set.type (s.set.name==z.apex)|none=>false
def iG(has:Int->Bool)(z:aF):Bool:=has 4&&has 2&&(List.range z.sets.length).all (jv z)
end NP
namespace Go.Proofs.YtjapjahfllomkaaGreatDoor
open NQ Go NP Go.RowKit
theorem DH(z:aF)(hn:z.sets.length<=100000)(pos:Int->Nat)(has:Int->Bool)(hf:∀t,NQ.Fn cx 87 [.agg (aW z),.agg (cS ⟨z.apex,t⟩)] (.tuple [.d (.int .i64 (pos t)),.d (.bool (has t))]) []) :
 NQ.Fn cx 156 [.agg (aW z)] (.d (.bool (iG has z))) []:=by
 refine aA aO mixed Tryz.func156 (by kernel_rfl) rfl (ah rfl) ?_;conv=>whnf
 refine⟨Nat,λk=>⟨[(1,.ptr 1 0),(9,.own 9),(10,.d (.int .i64 2)),(11,.d (.int .i64 k))],[(1,.box ((aW z).map .d)),(9,.row 3 1 [[.int .i64 4],[.int .i64 2]])]⟩,
  λk=>k<=2/\(0<k->has 4=true)/\(1<k->has 2=true),λk=>2-k,⟨0,⟨by omega,by omega,by omega⟩,aj.keep ⟨ab,ab,ab,ab,trivial⟩ ⟨ab,ab,trivial⟩⟩,λk ⟨hk,ha,hb⟩=>?_⟩
 conv=>whnf
 refine ae (λh1=>?_) (λh1=>?_) <;> (rw[h1];conv=>whnf)
 . have hlt:k<2:=by simp at h1;omega
   have hk2:k=0\/k=1:=by omega
   rcases hk2 with rfl|rfl
   . refine⟨by decide,by decide,?_⟩
     conv=>whnf
     refine⟨[.int .i64 4],rfl,?_⟩
     conv=>whnf
     (refine⟨_,_,hf 4,?_⟩;conv=>whnf)
     refine ae (λh=>?_) (λh=>?_) <;> (rw[h];conv=>whnf)
     . refine af rfl ?_;have h4:has 4=false:=by simpa using h
       simp[D.cY,iG,h4]
     . exact⟨1,⟨by omega,λ_=>by simpa using h,by omega⟩,by decide,aj.keep ⟨ab,ab,ab,⟨ao (by omega),rfl⟩,trivial⟩ ⟨ab,ab,trivial⟩⟩
   . refine⟨by decide,by decide,?_⟩
     conv=>whnf
     refine⟨[.int .i64 2],rfl,?_⟩
     conv=>whnf
     (refine⟨_,_,hf 2,?_⟩;conv=>whnf)
     refine ae (λh=>?_) (λh=>?_) <;> (rw[h];conv=>whnf)
     . refine af rfl ?_;have h4:has 2=false:=by simpa using h
       simp[D.cY,iG,h4]
     . exact⟨2,⟨by omega,λ_=>ha (by omega),λ_=>by simpa using h⟩,by decide,aj.keep ⟨ab,ab,ab,⟨ao (by omega),rfl⟩,trivial⟩ ⟨ab,ab,trivial⟩⟩
 . have h2:k=2:=by simp at h1;omega
   have h4:=ha (by omega);have h5:=hb (by omega);have hyes:iG has z=(List.range z.sets.length).all (jv z):=by simp only[iG,h4,h5,if_true,if_false,aD]
   clear h1 ha hb;refine⟨Nat,λk=>⟨[(1,.ptr 1 0),(30,.d (.slice 5 (z.sets.map az))),(31,.d (.int .i64 ((z.sets.map az).length:Int))),(32,.d (.int .i64 k))],[(1,.box ((aW z).map .d))]⟩,
    λk=>k<=z.sets.length/\(List.range k).all (jv z)=true,λk=>z.sets.length-k,⟨0,⟨by omega,rfl⟩,aj.keep ⟨ab,ab,ab,ab,trivial⟩ ⟨ab,trivial⟩⟩,λk ⟨hk,hall⟩=>?_⟩
   conv=>whnf
   refine ae (λh1=>?_) (λh1=>?_) <;> (rw[h1];conv=>whnf)
   . have hlt:k<z.sets.length:=by simp at h1;omega
     obtain⟨s,hs⟩:∃s,z.sets[k]? =some s:=⟨_,ag hlt⟩
     have hat:jv z k=fits s.set.type (s.set.name==z.apex):=by simp only[jv,hs]
     have hno:jv z k=false->iG has z=false:=λhh=>by rw[hyes,bI hlt hh]
     refine⟨av k,az s,aC hs,?_⟩
     conv=>whnf
     repeat' (first|(refine⟨_,_,GA _ _,?_⟩;conv=>whnf)|(refine ae (λh=>?_) (λh=>?_) <;> (rw[h];conv=>whnf))|(refine⟨(by kernel_rfl:bf _ _=true),?_⟩;conv=>whnf)|fail)
     all_goals first
      |(refine af rfl ?_;show AV.d (D.bool false)=_;rw[hno (by rw[hat];simp_all)])
      |(refine⟨k+1,⟨by omega,?_⟩,by(show z.sets.length-(k+1)<z.sets.length-k;omega),aj.keep ⟨ab,ab,ab,⟨ao (by omega),rfl⟩,trivial⟩ ⟨ab,trivial⟩⟩;rw[bR,hall,hat];simp_all)
      |fail
   . refine af rfl ?_;obtain rfl:k=z.sets.length:=by simp at h1;omega
     show AV.d (D.bool true)=_
     rw[hyes,hall]
end Go.Proofs.YtjapjahfllomkaaGreatDoor
namespace NP
open NQ Go
def aP(s:Bs):List D:=[.str s]
def tJ(z:aF)(b:List Bs):List D:=[.str z.apex,.slice 5 (z.sets.map az),.slice 1 (b.map aP)]
def uD(n i:Nat)(s p x:Signed):Bool :=
 !(s.set.type != 3)&&((decide ((i:Int)>0)&&(p.set.name==s.set.name))||(decide (((i:Nat):Int)+1<(n:Int))&&(x.set.name==s.set.name)&&(x.set.type != 8)))
def mD(z:aF)(i:Nat):Bool :=
 match z.sets[i]? with
 |some s=> !uD z.sets.length i s ((z.sets[i-1]?).getD s) ((z.sets[i+1]?).getD s)
 |none=>false
def aliases(z:aF):Bool:=(List.range z.sets.length).all (mD z)
def kv(s:Signed)(b:Bs):Bool :=
 if (b==[])=true then s.set.type==6
 else if (b==s.set.name)=true then(s.set.type != 2)&&(s.set.type != 6)&&(s.set.type != 8)&&(s.set.type != 1)
 else s.set.type != 1
def cutAt(z:aF)(b:List Bs)(i:Nat):Bool:=match z.sets[i]?, b[i]? with|some s,some x=> !kv s x|_,_=>false
def nP(z:aF)(b:List Bs):Bool:=(List.range z.sets.length).all (cutAt z b)
def mW(s:Signed)(b:Bs):Bool:=(!(b==[])&&((s.set.type==2)||(s.set.type==1)))&&decide ((s.sigs.length:Int)>0)
def pq(z:aF)(b:List Bs)(i:Nat):Bool:=match z.sets[i]?, b[i]? with|some s,some x=> !mW s x|_,_=>false
def pr(z:aF)(b:List Bs):Bool:=(List.range z.sets.length).all (pq z b)
def lS(z:aF)(i:Nat):Bool:=match z.sets[i]? with|some s=>fZ s.sigs z.apex|none=>false
def nT(z:aF):Bool:=(List.range z.sets.length).all (lS z)
theorem wrap_add{k:Nat}(hk:k<=4611686018427387904):IntKind.i64.wrap ((k:Int)+1)=(k:Int)+1:=wrap_i64 (by omega) (by omega)
theorem PL{α:Type}{f:α->List D}{l:List α}{k:Nat}{g:α}(hg:l[k+1]? =some g):(l.map f)[((k:Int)+1).toNat]? =some (f g):=by
 rw[show((k:Int)+1).toNat=k+1 by omega];simp[hg]
end NP
namespace Go.Proofs.YtjapjahfllomkaaGreatDoor
open NQ Go NP Go.RowKit
theorem AO(z:aF)(b:List Bs)(hn:z.sets.length<=100000):NQ.Fn cx 158 [.agg (tJ z b)] (.d (.bool (aliases z))) []:=by
 refine aA aO mixed Tryz.func158 (by kernel_rfl) rfl (ah rfl) ?_;conv=>whnf
 have hyes:aliases z=(List.range z.sets.length).all (mD z):=rfl;refine⟨Nat,λk=>⟨[(1,.ptr 1 0),(8,.d (.slice 5 (z.sets.map az))),(9,.d (.int .i64 ((z.sets.map az).length:Int))),(10,.d (.int .i64 k))],[(1,.box ((tJ z b).map .d))]⟩,λk=>k<=z.sets.length/\(List.range k).all (mD z)=true,λk=>z.sets.length-k,⟨0,⟨by omega,rfl⟩,aj.keep ⟨ab,ab,ab,ab,trivial⟩ ⟨ab,trivial⟩⟩,λk ⟨hk,hall⟩=>?_⟩;(conv=>whnf);refine ae (λh1=>?_) (λh1=>?_) <;> (rw[h1];conv=>whnf)
 . have hlt:k<z.sets.length:=by simp at h1;omega
   obtain⟨s,hs⟩:∃s,z.sets[k]? =some s:=⟨_,ag hlt⟩
   obtain⟨p,hp⟩:∃p,z.sets[k-1]? =some p:=⟨_,ag (by omega)⟩
   obtain⟨x,hx⟩:∃x,x=(z.sets[k+1]?).getD s:=⟨_,rfl⟩
   have hat:mD z k= !uD z.sets.length k s p x:=by simp only[mD,hs,hp,Option.getD_some, <- hx]
   have hno:mD z k=false->aliases z=false:=λhh=>by rw[hyes,bI hlt hh]
   have hxx:k+1<z.sets.length->z.sets[k+1]? =some x:=λhq=>by rw[hx,ag hq];rfl
   clear hx;have hw:=wrap_add (k:=k) (by omega);refine⟨av k,az s,aC hs,?_⟩
   conv=>whnf
   repeat' (first
    |(refine⟨(by kernel_rfl:bf _ _=true),?_⟩;conv=>whnf)
    |(refine af rfl ?_;show AV.d (D.bool false)=_;(try simp only[ak]at *);rw[hno (by rw[hat];simp only[uD, *, if_true,if_false,aD])];done)
    |(refine⟨k+1,⟨by omega,?_⟩,by(show z.sets.length-(k+1)<z.sets.length-k;omega),aj.keep ⟨ab,ab,ab,⟨ao (by omega),rfl⟩,trivial⟩ ⟨ab,trivial⟩⟩;rw[bR,hall,hat];((try simp only[ak]at *);simp only[uD, *, if_true,if_false,aD];done))
    |(rw[hw];(refine ae (λh=>?_) (λh=>?_) <;> (rw[h];conv=>whnf)))
    |(refine ae (λh=>?_) (λh=>?_) <;> (rw[h];conv=>whnf))
    |(refine⟨(ik (by assumption) (by omega)).1,az p,eE (by assumption) (by omega) hp,?_⟩;conv=>whnf)
    |(rw[hw];refine⟨by omega,az x,PL (by have hq:= ‹decide (((k:Nat):Int)+1<_)=true›;exact hxx (by simp at hq;omega)),?_⟩;conv=>whnf)
    |fail)
 . (refine af rfl ?_;obtain rfl:k=z.sets.length:=(by simp at h1;omega);show AV.d (D.bool true)=_;rw[hyes,hall])
theorem Gu(z:aF)(b:List Bs)(hn:z.sets.length<=100000)(hb:b.length=z.sets.length):NQ.Fn cx 159 [.agg (tJ z b)] (.d (.bool (nP z b))) []:=by
 refine aA aO mixed Tryz.func159 (by kernel_rfl) rfl (ah rfl) ?_;conv=>whnf
 have hyes:nP z b=(List.range z.sets.length).all (cutAt z b):=rfl;refine⟨Nat,λk=>⟨[(1,.ptr 1 0),(9,.d (.slice 5 (z.sets.map az))),(10,.d (.int .i64 ((z.sets.map az).length:Int))),(11,.d (.int .i64 k))],[(1,.box ((tJ z b).map .d))]⟩,λk=>k<=z.sets.length/\(List.range k).all (cutAt z b)=true,λk=>z.sets.length-k,⟨0,⟨by omega,rfl⟩,aj.keep ⟨ab,ab,ab,ab,trivial⟩ ⟨ab,trivial⟩⟩,λk ⟨hk,hall⟩=>?_⟩;(conv=>whnf);refine ae (λh1=>?_) (λh1=>?_) <;> (rw[h1];conv=>whnf)
 . have hlt:k<z.sets.length:=by simp at h1;omega
   obtain⟨s,hs⟩:∃s,z.sets[k]? =some s:=⟨_,ag hlt⟩
   obtain⟨x,hx⟩:∃x,b[k]? =some x:=⟨_,ag (by omega)⟩
   have hat:cutAt z b k= !kv s x:=by simp only[cutAt,hs,hx]
   have hno:cutAt z b k=false->nP z b=false:=λhh=>by rw[hyes,bI hlt hh]
   refine⟨av k,az s,aC hs,?_⟩
   conv=>whnf
   repeat' (first
    |(refine⟨(by kernel_rfl:bf _ _=true),?_⟩;conv=>whnf)
    |(refine af rfl ?_;show AV.d (D.bool false)=_;(try simp only[ak]at *);rw[hno (by rw[hat];simp only[kv, *, if_true,if_false,aD])];done)
    |(refine⟨k+1,⟨by omega,?_⟩,by(show z.sets.length-(k+1)<z.sets.length-k;omega),aj.keep ⟨ab,ab,ab,⟨ao (by omega),rfl⟩,trivial⟩ ⟨ab,trivial⟩⟩;rw[bR,hall,hat];((try simp only[ak]at *);simp only[kv, *, if_true,if_false,aD];done))
    |(refine⟨av k,aP x,aC hx,?_⟩;conv=>whnf)
    |(refine ae (λh=>?_) (λh=>?_) <;> (rw[h];conv=>whnf))
    |fail)
 . (refine af rfl ?_;obtain rfl:k=z.sets.length:=(by simp at h1;omega);show AV.d (D.bool true)=_;rw[hyes,hall])
theorem Hi(z:aF)(b:List Bs)(hn:z.sets.length<=100000)(hb:b.length=z.sets.length):NQ.Fn cx 160 [.agg (tJ z b)] (.d (.bool (pr z b))) []:=by
 refine aA aO mixed Tryz.func160 (by kernel_rfl) rfl (ah rfl) ?_;conv=>whnf
 have hyes:pr z b=(List.range z.sets.length).all (pq z b):=rfl;refine⟨Nat,λk=>⟨[(1,.ptr 1 0),(9,.d (.slice 5 (z.sets.map az))),(10,.d (.int .i64 ((z.sets.map az).length:Int))),(11,.d (.int .i64 k))],[(1,.box ((tJ z b).map .d))]⟩,λk=>k<=z.sets.length/\(List.range k).all (pq z b)=true,λk=>z.sets.length-k,⟨0,⟨by omega,rfl⟩,aj.keep ⟨ab,ab,ab,ab,trivial⟩ ⟨ab,trivial⟩⟩,λk ⟨hk,hall⟩=>?_⟩;(conv=>whnf);refine ae (λh1=>?_) (λh1=>?_) <;> (rw[h1];conv=>whnf)
 . have hlt:k<z.sets.length:=by simp at h1;omega
   obtain⟨s,hs⟩:∃s,z.sets[k]? =some s:=⟨_,ag hlt⟩
   obtain⟨x,hx⟩:∃x,b[k]? =some x:=⟨_,ag (by omega)⟩
   have hat:pq z b k= !mW s x:=by simp only[pq,hs,hx]
   have hno:pq z b k=false->pr z b=false:=λhh=>by rw[hyes,bI hlt hh]
   refine⟨av k,az s,aC hs,?_⟩
   conv=>whnf
   repeat' (first
    |(refine⟨(by kernel_rfl:bf _ _=true),?_⟩;conv=>whnf)
    |(refine af rfl ?_;show AV.d (D.bool false)=_;(try simp only[ak]at *);rw[hno (by rw[hat];simp only[mW, *, if_true,if_false,aD])];done)
    |(refine⟨k+1,⟨by omega,?_⟩,by(show z.sets.length-(k+1)<z.sets.length-k;omega),aj.keep ⟨ab,ab,ab,⟨ao (by omega),rfl⟩,trivial⟩ ⟨ab,trivial⟩⟩;rw[bR,hall,hat];((try simp only[ak]at *);simp only[mW, *, if_true,if_false,aD];done))
    |(refine⟨av k,aP x,aC hx,?_⟩;conv=>whnf)
    |(refine ae (λh=>?_) (λh=>?_) <;> (rw[h];conv=>whnf))
    |fail)
 . (refine af rfl ?_;obtain rfl:k=z.sets.length:=(by simp at h1;omega);show AV.d (D.bool true)=_;rw[hyes,hall])
theorem Et(z:aF)(b:List Bs)(hn:z.sets.length<=100000):NQ.Fn cx 161 [.agg (tJ z b)] (.d (.bool (nT z))) []:=by
 refine aA aO mixed Tryz.func161 (by kernel_rfl) rfl (ah rfl) ?_;conv=>whnf
 have hyes:nT z=(List.range z.sets.length).all (lS z):=rfl;refine⟨Nat,λk=>⟨[(1,.ptr 1 0),(8,.d (.slice 5 (z.sets.map az))),(9,.d (.int .i64 ((z.sets.map az).length:Int))),(10,.d (.int .i64 k))],[(1,.box ((tJ z b).map .d))]⟩,λk=>k<=z.sets.length/\(List.range k).all (lS z)=true,λk=>z.sets.length-k,⟨0,⟨by omega,rfl⟩,aj.keep ⟨ab,ab,ab,ab,trivial⟩ ⟨ab,trivial⟩⟩,λk ⟨hk,hall⟩=>?_⟩;(conv=>whnf);refine ae (λh1=>?_) (λh1=>?_) <;> (rw[h1];conv=>whnf)
 . have hlt:k<z.sets.length:=by simp at h1;omega
   obtain⟨s,hs⟩:∃s,z.sets[k]? =some s:=⟨_,ag hlt⟩
   have hat:lS z k= !(!fZ s.sigs z.apex):=by simp only[lS,hs,oL]
   have hno:lS z k=false->nT z=false:=λhh=>by rw[hyes,bI hlt hh]
   refine⟨av k,az s,aC hs,?_⟩
   conv=>whnf
   repeat' (first
    |(refine⟨(by kernel_rfl:bf _ _=true),?_⟩;conv=>whnf)
    |(refine af rfl ?_;show AV.d (D.bool false)=_;(try simp only[ak]at *);rw[hno (by rw[hat];simp only[lS, *, if_true,if_false,aD])];done)
    |(refine⟨k+1,⟨by omega,?_⟩,by(show z.sets.length-(k+1)<z.sets.length-k;omega),aj.keep ⟨ab,ab,ab,⟨ao (by omega),rfl⟩,trivial⟩ ⟨ab,trivial⟩⟩;rw[bR,hall,hat];((try simp only[ak]at *);simp only[lS, *, if_true,if_false,aD];done))
    |(refine⟨_,_,Mx s.sigs z.apex,?_⟩;conv=>whnf)
    |(refine ae (λh=>?_) (λh=>?_) <;> (rw[h];conv=>whnf))
    |fail)
 . (refine af rfl ?_;obtain rfl:k=z.sets.length:=(by simp at h1;omega);show AV.d (D.bool true)=_;rw[hyes,hall])
end Go.Proofs.YtjapjahfllomkaaGreatDoor
namespace NP
open NQ Go
def dj(apex:Bs)(s:Signed):Bool:=(s.set.type==2)&& !(s.set.name==apex)
def ie(apex:Bs):List Signed->List (Bs×D)->List (Bs×D)
 |[],m=>m
 |s::t,m=>ie apex t (if dj apex s=true then dG s.set.name (.bool true) m else m)
def dN(apex:Bs)(l:List Signed)(n:Bs):Bool:=l.any λs=>dj apex s&&(s.set.name==n)
theorem Au(k n:Bs)(v:D):∀m,cJ n (dG k v m)=if n=k then some v else cJ n m
 |[]=>by simp only[dG,cJ]
 |(k',v')::t=>by
  simp only[dG];by_cases h:k=k'
  . subst h;simp only[if_true,cJ];by_cases h2:n=k <;> simp only[h2,if_true,if_false]
  . simp only[h,if_false,cJ,Au k n v t];by_cases h2:n=k'
    . subst h2;have h3:¬n=k:=λe=>h e.symm
      simp only[if_true,h3,if_false]
    . simp only[h2,if_false]
theorem rG(apex n:Bs):∀(l:List Signed) (m:List (Bs×D)),cJ n (ie apex l m)=if dN apex l n=true then some (.bool true)else cJ n m
 |[],m=>by simp[ie,dN]
 |s::t,m=>by
  rw[ie,rG apex n t];by_cases h:dj apex s=true
  . rw[if_pos h,Au];by_cases hn:n=s.set.name
    . subst hn;simp[dN,h]
    . have hn' :(s.set.name==n)=false:=by simpa using λe=>hn e.symm
      simp only[hn,if_false,dN,List.any_cons,h,hn',gV,dK]
  . have h' :dj apex s=false:=by simpa using h
    simp only[dN,List.any_cons,h',gW,dK,dM,if_false]
def jS(cut:Bs->Bool)(c n:Bs):Bs :=
 let c' :=if (!(c==[])&& !(bz n c).1)=true then[]else c
 if ((c' ==[])&&cut n)=true then n else c'
def bh(cut:Bs->Bool):Bs->List Signed->List Bs
 |_,[]=>[]
 |c,s::t=>jS cut c s.set.name::bh cut (jS cut c s.set.name) t
def cV(z:aF):List Bs:=bh (dN z.apex z.sets) [] z.sets
theorem uH(cut:Bs->Bool):∀(c:Bs) (l:List Signed),(bh cut c l).length=l.length
 |_,[]=>rfl
 |c,s::t=>by simp[bh,uH cut _ t]
theorem IM(done:List Bs)(n:Nat)(c:Bs):(done++List.replicate (n+1) []).set done.length c=(done++[c])++List.replicate n []:=by
 rw[List.replicate_succ,List.set_append];simp
theorem rH(apex:Bs)(s:Signed):∀(l:List Signed) (m:List (Bs×D)),ie apex (l++[s]) m=if dj apex s=true then dG s.set.name (.bool true) (ie apex l m)else ie apex l m
 |[],m=>rfl
 |x::t,m=>by rw[List.cons_append,ie,ie,rH apex s t]
theorem bg{α:Type}{l:List α}{k:Nat}{x:α}(h:l[k]? =some x):l.take (k+1)=l.take k++[x]:=by
 rw[List.take_add_one,h];rfl
theorem Cj{b:Bool}(h:(!b)=false)(h' :b=false):False:=by subst h';cases h
end NP
namespace Go.Proofs.YtjapjahfllomkaaGreatDoor
open NQ Go NP Go.RowKit
theorem Tq(z:aF)(hn:z.sets.length<=100000):NQ.Fn cx 157 [.agg (aW z)] (.agg ((tJ z (cV z)).map .d)) []:=by
 refine aA aO mixed Tryz.func157 (by kernel_rfl) rfl (ah rfl) ?_;conv=>whnf
 refine ⟨Nat, fun k => ⟨[(1, .ptr 1 0), (2, .ptr 2 0), (3, .omap 13), (16, .d (.slice 5 (z.sets.map az))), (17, .d (.int .i64 ((z.sets.map az).length : Int))), (18, .d (.int .i64 k))],
     [(1,.box ((aW z).map .d)),(2,.box [.d (.str []),.nil 5,.nil 1]),(13,.smap (ie z.apex (z.sets.take k) []))]⟩,
  λk=>k<=z.sets.length,λk=>z.sets.length-k,⟨0,by omega,aj.keep ⟨ab,ab,ab,ab,ab,ab,trivial⟩ ⟨ab,ab,ab,trivial⟩⟩,λk hk=>?_⟩
 conv=>whnf
 refine ae (λh1=>?_) (λh1=>?_) <;> (rw[h1];conv=>whnf)
 . have hlt:k<z.sets.length:=by simp at h1;omega
   obtain⟨s,hs⟩:∃s,z.sets[k]? =some s:=⟨_,ag hlt⟩
   refine⟨av k,az s,aC hs,?_⟩
   conv=>whnf
   have hm:=rH z.apex s (z.sets.take k) [];rw[<- bg hs]at hm
   repeat' (first
    |(refine⟨(by kernel_rfl:bf _ _=true),?_⟩;conv=>whnf)
    |(refine⟨k+1,hlt,by(show z.sets.length-(k+1)<z.sets.length-k;omega),aj.keep ⟨ab,ab,ab,ab,ab,⟨ao (by omega),rfl⟩,trivial⟩ ⟨ab,ab,⟨?_,rfl⟩,trivial⟩⟩;show some (Blk.smap _)=some (Blk.smap _);rw[hm];simp only[dj, *, if_true,if_false,aD];done)
    |(refine ae (λh=>?_) (λh=>?_) <;> (rw[h];conv=>whnf))
    |fail)
 . obtain rfl:k=z.sets.length:=by simp at h1;omega
   (refine⟨(by kernel_rfl:bf _ _=true),?_⟩;conv=>whnf)
   refine⟨by omega,.inl rfl,by omega,by(simp only[ak];omega),by(simp only[ak];omega),?_⟩
   conv=>whnf
   refine ⟨Nat × Bs × List Bs, fun x => ⟨[(1, .ptr 1 0), (2, .ptr 2 0), (3, .omap 13), (6, .ptr 6 0), (7, .d (.str x.2.1)), (49, .d (.slice 5 (z.sets.map az))), (50, .d (.int .i64 ((z.sets.map az).length : Int))), (51, .d (.int .i64 x.1))],
       [(1,.box ((aW z).map .d)),(2,.box [.d (.str []),.nil 5,.nil 1]),(13,.smap (ie z.apex z.sets [])),(45,.row 9 1 ((x.2.2++List.replicate (z.sets.length-x.1) []).map aP) true),(6,.box [.d (.str z.apex),.d (.slice 5 (z.sets.map az)),.own 45])]⟩,
    λx=>x.1<=z.sets.length/\x.2.2.length=x.1/\x.2.2++bh (dN z.apex z.sets) x.2.1 (z.sets.drop x.1)=cV z,λx=>z.sets.length-x.1,
    ⟨(0,[],[]),⟨by simp,rfl,rfl⟩,aj.keep ⟨ab,ab,ab,ab,ab,ab,ab,ab,trivial⟩ ⟨ab,ab,⟨by(show some (Blk.smap (ie z.apex (z.sets.take z.sets.length) []))=_;rw[List.take_length]),rfl⟩,⟨by(show some (Blk.row _ _ (List.replicate ((z.sets.map az).length:Int).toNat _) true)=some (Blk.row _ _ _ true);simp[aP];done),rfl⟩,ab,trivial⟩⟩,?_⟩
   rintro⟨k,c,done⟩ ⟨hk,hd,hall⟩;simp only at hk hd hall
   conv=>whnf
   refine ae (λh1=>?_) (λh1=>?_) <;> (rw[h1];conv=>whnf)
   . have hlt:k<z.sets.length:=by simp at h1;omega
     obtain⟨s,hs⟩:∃s,z.sets[k]? =some s:=⟨_,ag hlt⟩
     refine⟨av k,az s,aC hs,?_⟩
     conv=>whnf
     have hdr:z.sets.drop k=s::z.sets.drop (k+1):=by
      obtain⟨hl,he⟩:=ar.mp hs;rw[List.drop_eq_getElem_cons hlt,he]
     have hrow:k<((done++List.replicate (z.sets.length-k) []).map aP).length:=by simp;omega
     have hrep:List.replicate (z.sets.length-k) ([]:Bs)=List.replicate ((z.sets.length-(k+1))+1) []:=by congr 1;omega
     have hset:∀c',((done++List.replicate (z.sets.length-k) []).map aP).set k (aP c')=((done++[c'])++List.replicate (z.sets.length-(k+1)) []).map aP:=λc' =>by
      rw[hrep, <- IM done _ c',List.map_set,hd]
     rw[hdr,bh]at hall;have hgo:∀c',jS (dN z.apex z.sets) c s.set.name=c' ->(done++[c'])++bh (dN z.apex z.sets) c' (z.sets.drop (k+1))=cV z:=λc' e=>by
      rw[<- hall,e,List.append_assoc];rfl
     have hf:=rG z.apex s.set.name z.sets [];clear hall hk;obtain⟨q,hq⟩:∃q,dN z.apex z.sets s.set.name=q:=⟨_,rfl⟩
     rw[hq]at hf;have e0:(⟨#[]⟩:ByteArray).data.toList=[]:=rfl;have hrk:((done++List.replicate (z.sets.length-k) []).map aP)[k]? =some (aP []):=by
      rw[aQ,bX (by omega),List.getElem?_replicate,if_pos (by omega)];rfl
     repeat' (first
      |(refine⟨_,_,pL _ _,?_⟩;conv=>whnf)
      |(refine⟨(by kernel_rfl:bf _ _=true),?_⟩;conv=>whnf)
      |(refine ae (λh=>?_) (λh=>?_) <;> (rw[h];conv=>whnf))
      |(rcases q with _|_ <;> ((try simp only[dM,if_false,if_true,cJ]at hf);rw[hf];conv=>whnf))
      |exact(Cj (b:=c==[]) (by assumption) (by assumption)).elim
      |(refine⟨av k,hrow,?_⟩;conv=>whnf)
      |(refine⟨_,hrk,?_⟩;conv=>whnf)
      |(refine⟨(k+1,c,done++[c]),⟨hlt,by simp[hd],hgo _ (by(try simp only[e0]at *);simp only[jS, *, if_true,if_false,aD,beq_self_eq_true];done)⟩,by(show z.sets.length-(k+1)<z.sets.length-k;omega),aj.keep ⟨ab,ab,ab,ab,ab,ab,ab,⟨ao (by omega),rfl⟩,trivial⟩ ⟨ab,ab,ab,⟨by(show some (Blk.row _ _ (List.set _ k (aP (c))) true)=some (Blk.row _ _ _ true);rw[hset]),rfl⟩,ab,trivial⟩⟩;done)
      |(refine⟨(k+1,[],done++[[]]),⟨hlt,by simp[hd],hgo _ (by(try simp only[e0]at *);simp only[jS, *, if_true,if_false,aD,beq_self_eq_true];done)⟩,by(show z.sets.length-(k+1)<z.sets.length-k;omega),aj.keep ⟨ab,ab,ab,ab,ab,ab,ab,⟨ao (by omega),rfl⟩,trivial⟩ ⟨ab,ab,ab,⟨by(show some (Blk.row _ _ (List.set _ k (aP ([]))) true)=some (Blk.row _ _ _ true);rw[hset]),rfl⟩,ab,trivial⟩⟩;done)
      |(refine⟨(k+1,s.set.name,done++[s.set.name]),⟨hlt,by simp[hd],hgo _ (by(try simp only[e0]at *);simp only[jS, *, if_true,if_false,aD,beq_self_eq_true];done)⟩,by(show z.sets.length-(k+1)<z.sets.length-k;omega),aj.keep ⟨ab,ab,ab,ab,ab,ab,ab,⟨ao (by omega),rfl⟩,trivial⟩ ⟨ab,ab,ab,⟨by(show some (Blk.row _ _ (List.set _ k (aP (s.set.name))) true)=some (Blk.row _ _ _ true);rw[hset]),rfl⟩,ab,trivial⟩⟩;done)
      |fail)
   . refine af rfl ?_;obtain rfl:k=z.sets.length:=by simp at h1;omega
     simp only[List.drop_length,bh,List.append_nil]at hall;show AV.agg [_,_,AV.d (.slice 1 ((done++List.replicate (z.sets.length-z.sets.length) []).map aP))]=_
     rw[Nat.sub_self,List.replicate_zero,List.append_nil,hall];rfl
end Go.Proofs.YtjapjahfllomkaaGreatDoor
namespace NP
open NQ Go
theorem tc:iT cZ where
 range := fun a b => by unfold cZ; repeat' split
                        all_goals omega
 zero := fun a b => by unfold cZ; repeat' split
                       all_goals omega
 anti := fun a b => by unfold cZ; repeat' split
                       all_goals omega
 lt := fun a b c => by unfold cZ; repeat' split
                       all_goals omega
theorem bp:iT aI where
 range:=λa b=>nB.range _ _
 zero:=λa b=>⟨λh=>sU ((nB.zero _ _).1 h),λh=>by subst h;exact(nB.zero _ _).2 rfl⟩
 anti:=λa b=>nB.anti _ _
 lt:=λa b c=>nB.lt _ _ _
def lex{α β:Type}(c:α->α->Int)(e:β->β->Int)(p q:α×β):Int:=if c p.1 q.1=0 then e p.2 q.2 else c p.1 q.1
theorem Sa{α β:Type}{c:α->α->Int}{e:β->β->Int}(hc:iT c)(he:iT e):iT (lex c e) where
 range:=λa b=>by unfold lex;split;exact he.range _ _;exact hc.range _ _
 zero:=λa b=>by
  unfold lex;split
  . rename_i h;rw[he.zero,Prod.ext_iff];exact⟨λk=>⟨(hc.zero _ _).1 h,k⟩,λk=>k.2⟩
  . rename_i h;exact⟨λk=>absurd k h,λk=>absurd ((hc.zero _ _).2 (by rw[k])) h⟩
 anti:=λa b=>by
  unfold lex;rw[hc.anti a.1 b.1];by_cases h:c a.1 b.1=0
  . rw[if_pos h,if_pos (by omega),he.anti]
  . rw[if_neg h,if_neg (by omega)]
 lt:=λa b d=>by
  unfold lex;intro h1 h2;by_cases k1:c a.1 b.1=0
  . have e1:=(hc.zero _ _).1 k1;rw[if_pos k1]at h1;rw[e1];by_cases k2:c b.1 d.1=0
    . rw[if_pos k2]at h2 ⊢;exact he.lt _ _ _ h1 h2
    . rw[if_neg k2]at h2 ⊢;exact h2
  . rw[if_neg k1]at h1;by_cases k2:c b.1 d.1=0
    . have e2:=(hc.zero _ _).1 k2;rw[<- e2,if_neg k1];exact h1
    . rw[if_neg k2]at h2;have h3:=hc.lt _ _ _ h1 h2;rw[if_neg (by omega)];exact h3
abbrev cpl:Bs×Int->Bs×Int->Int:=lex aI cZ
theorem iY:iT cpl:=Sa bp tc
theorem td{a b:Bs}(s t:Int)(ha:au a=true)(hb:au b=true):qF a s b t=cpl (a,s) (b,t):=by
 unfold qF cpl lex cy;simp only[ha,hb,and_self,if_true,bp.zero]
def Signed.place(s:Signed):Bs×Int:=(s.set.name,s.set.type)
def aV.place(q:aV):Bs×Int:=(q.name,q.type)
def ee:List Signed->Prop
 |[]=>True
 |[_]=>True
 |a::b::t=>cpl a.place b.place<0/\ee (b::t)
theorem TZ{a b c:Bs×Int}(h1:0<=cpl a c)(h2:cpl a b<0):0<=cpl b c:=by
 rcases iY.range b c with h|h|h
 . rcases iY.range a b with k|k|k
   . have:=iY.lt a b c k h;omega
   . omega
   . omega
 . omega
 . omega
theorem Cp{q:Bs×Int}:∀{l:List Signed} {x:Signed},ee (x::l)->0<=cpl x.place q-> ∀s∈l,0<=cpl s.place q
 |[],_,_,_,s,hs=>by cases hs
 |y::t,x,h,hx,s,hs=>by
  have hy:=TZ hx h.1;rcases List.mem_cons.1 hs with rfl|hs
  . exact hy
  . exact Cp h.2 hy s hs
theorem mv:∀{l:List Signed} {x:Signed},ee (x::l)-> ∀s∈l,cpl x.place s.place<0
 |[],_,_,s,hs=>by cases hs
 |y::t,x,h,s,hs=>by
  rcases List.mem_cons.1 hs with rfl|hs
  . exact h.1
  . have h1:=mv h.2 s hs;have h2:=h.1;rcases iY.range x.place y.place with a|a|a <;> rcases iY.range y.place s.place with b|b|b <;> first|omega|skip
    have:=iY.lt _ _ _ a b;omega
theorem ee.tail{x:Signed}:∀{l:List Signed},ee (x::l)->ee l
 |[],_=>trivial
 |_::_,h=>h.2
def posOf(l:List Signed)(q:aV):Nat:=(l.takeWhile λs=>decide (cpl s.place q.place<0)).length
def is(q:aV)(s:Signed):Bool:=(s.set.name==q.name)&&(s.set.type==q.type)
def cP(l:List Signed)(q:aV):Bool:=l.any (is q)
theorem lK(q:aV)(s:Signed):is q s=true ↔ s.place=q.place:=by
 simp[is,Signed.place,aV.place]
theorem Fs{s:Signed}{q:aV}(hs:au s.set.name=true)(hq:au q.name=true):plc s q=cpl s.place q.place:=td _ _ hs hq
theorem yO(q:aV)(hq:au q.name=true):∀(l:List Signed),ee l->(∀s∈l,au s.set.name=true)->Split l q (posOf l q)/\foundAt l q (posOf l q)=cP l q
 |[],_,_=>⟨⟨Nat.le_refl _,λi s h=>(by cases h),λi s h=>(by cases h)⟩,rfl⟩
 |x::l,h,hv=>by
  have hx:=Fs (hv x (List.mem_cons_self ..)) hq;by_cases hlt:cpl x.place q.place<0
  . have hp:posOf (x::l) q=posOf l q+1:=by simp[posOf,List.takeWhile_cons,hlt]
    obtain⟨⟨h1,h2,h3⟩,h4⟩:=yO q hq l h.tail λs hs=>hv s (aM _ hs)
    rw[hp];refine⟨⟨by simp;exact h1,?_,?_⟩,?_⟩
    . intro i s hs hi;cases i with
      |zero=>cases hs;omega
      |succ i=>exact h2 i s hs (by omega)
    . intro i s hs hi;cases i with
      |zero=>omega
      |succ i=>exact h3 i s hs (by omega)
    . have hne:is q x=false:=by
       cases hi:is q x with
       |false=>rfl
       |true=>rw[(lK q x).1 hi,(iY.zero _ _).2 rfl]at hlt;omega
      unfold foundAt at h4 ⊢;rw[List.getElem?_cons_succ,h4];simp[cP,hne]
  . have hp:posOf (x::l) q=0:=by simp[posOf,List.takeWhile_cons,hlt]
    have hge:0<=cpl x.place q.place:=by omega
    rw[hp];refine⟨⟨by omega,λi s _ hi=>by omega,?_⟩,?_⟩
    . intro i s hs _;have hm:=aq hs;rw[Fs (hv s hm) hq];rcases List.mem_cons.1 hm with rfl|hm
      . exact hge
      . exact Cp h hge s hm
    . show(plc x q==0)=_
      rw[hx];have hb:(cpl x.place q.place==0)=is q x:=by
       rw[Bool.eq_iff_iff,beq_iff_eq,iY.zero,lK]
      rw[hb];cases hi:is q x with
      |true=>simp[cP,hi]
      |false =>
       have:cP l q=false:=by
        simp only[cP,List.any_eq_false];intro s hs hs';have h1:=mv h s hs;rw[(lK q s).1 hs']at h1;omega
       simp only[cP,List.any_cons,hi,dK]at this ⊢;exact this.symm
structure Ordered(z:aF):Prop where
 apex:au z.apex=true
 tame:fm z.apex=false
 few:z.sets.length<=20000
 set:∀s∈z.sets,dP s.set=true
 under:∀s∈z.sets,(bz s.set.name z.apex).1=true
 rising:ee z.sets
theorem jC{s:gG}(h:dP s=true):au s.name=true:=by
 unfold dP at h;simp only[aB,Bool.not_eq_true',Bool.or_eq_false_iff,Bool.not_eq_false']at h;exact h.1.1.1.1.1
theorem Cq:∀(l:List Signed),(∀s∈l,au s.set.name=true)->(∀i p s,l[i]? =some p->l[i+1]? =some s->qF p.set.name p.set.type s.set.name s.set.type<0)->ee l
 |[],_,_=>trivial
 |[_],_,_=>trivial
 | a :: b :: t, hv, h => ⟨by
     have:=h 0 a b rfl rfl
     rwa [td _ _ (hv a (by simp)) (hv b (by simp))]at this,Cq (b::t) (λs hs=>hv s (aM _ hs)) λi p s hp hs=>h (i+1) p s hp hs⟩
theorem Ordered.of{z:aF}(h:ordered z=true):Ordered z:=by
 unfold ordered at h;simp only[aB,Bool.not_eq_true',Bool.or_eq_false_iff,Bool.not_eq_false',decide_eq_false_iff_not,ax,List.mem_range]at h;obtain⟨⟨⟨h1,h2⟩,h3⟩,h4⟩:=h;have hat:∀(i:Nat) s p,z.sets[i]? =some s->z.sets[i-1]? =some p->lL z.apex i s p=false:=by
  intro i s p hs hp;have:=h4 i (ar.1 hs).1;rw[qi hs hp]at this;simpa using this
 have hset:∀s∈z.sets,dP s.set=true/\(bz s.set.name z.apex).1=true:=by
  intro s hs;obtain⟨i,hi⟩:=cm hs;obtain⟨hl,_⟩:=ar.1 hi;obtain⟨p,hp⟩:∃p,z.sets[i-1]? =some p:=⟨_,ag (by omega)⟩
  have:=hat i s p hi hp;unfold lL at this;simp only[Bool.or_eq_false_iff,Bool.not_eq_false']at this;exact⟨this.1.1,this.1.2⟩
 refine⟨h1,h2,by omega,λs hs=>(hset s hs).1,λs hs=>(hset s hs).2,Cq _ (λs hs=>jC (hset s hs).1) ?_⟩;intro i p s hp hs;have:=hat (i+1) s p hs hp;unfold lL at this;simp only[Bool.or_eq_false_iff,Bool.not_eq_false',Bool.and_eq_false_iff,decide_eq_false_iff_not,beq_iff_eq]at this;rcases this.2 with k|k
 . omega
 . omega
theorem Ordered.name{z:aF}(h:Ordered z):∀s∈z.sets,au s.set.name=true:=λs hs=>jC (h.set s hs)
def aY(z:aF):Bool:=ordered z&&iG (λt=>cP z.sets ⟨z.apex,t⟩) z&&(aliases z&&nP z (cV z)&&pr z (cV z)&&nT z)
def bK(q:aV):Bool:=au q.name&&decide (q.type>=1)&&decide (q.type<=8)
end NP
namespace Go.Proofs.YtjapjahfllomkaaGreatDoor
open NQ Go NP Go.RowKit
theorem wA{z:aF}(h:Ordered z)(q:aV)(hq:au q.name=true) :
 NQ.Fn cx 87 [.agg (aW z),.agg (cS q)] (.tuple [.d (.int .i64 (posOf z.sets q)),.d (.bool (cP z.sets q))]) []:=by
 obtain⟨h1,h2⟩:=yO q hq z.sets h.rising h.name;have:=RC z q (posOf z.sets q) (by have:=h.few;omega) h1
 rwa [h2]at this
theorem rn(z:aF):NQ.Fn cx 86 [.agg (aW z)] (.d (.bool (aY z))) []:=by
 refine aA aO mixed Tryz.func86 (by kernel_rfl) rfl (ah rfl) ?_;conv=>whnf
 (refine⟨_,_,Ks z,?_⟩;conv=>whnf)
 (refine ae (λh=>?_) (λh=>?_) <;> (rw[h];conv=>whnf))
 . (refine af rfl ?_;show AV.d (D.bool false)=_;(try simp only[Bool.not_eq_true',Bool.not_eq_false',ak]at *);simp only[aY, *, if_true,if_false,aD];done)
 have ho:Ordered z:=Ordered.of (by simpa using h);have hn:z.sets.length<=100000:=by have:=ho.few;omega
 have hb:(cV z).length=z.sets.length:=uH _ _ _
 (refine⟨_,_,DH z hn _ _ (λt=>wA ho ⟨z.apex,t⟩ ho.apex),?_⟩;conv=>whnf)
 (refine ae (λh=>?_) (λh=>?_) <;> (rw[h];conv=>whnf))
 . (refine af rfl ?_;show AV.d (D.bool false)=_;(try simp only[Bool.not_eq_true',Bool.not_eq_false',ak]at *);simp only[aY, *, if_true,if_false,aD];done)
 (refine⟨_,_,Tq z hn,?_⟩;conv=>whnf)
 have hv:aY z=(aliases z&&nP z (cV z)&&pr z (cV z)&&nT z):=by
  simp only[Bool.not_eq_false']at *;simp only[aY, *, if_true,if_false,aD]
 (refine⟨_,_,AO z _ hn,?_⟩;conv=>whnf)
 repeat' (first|(refine⟨_,_,Gu z _ hn hb,?_⟩;conv=>whnf)|(refine⟨_,_,Hi z _ hn hb,?_⟩;conv=>whnf)|(refine⟨_,_,Et z _ hn,?_⟩;conv=>whnf)|(refine⟨(by kernel_rfl:bf _ _=true),?_⟩;conv=>whnf)|(refine ae (λh=>?_) (λh=>?_) <;> (rw[h];conv=>whnf))|fail)
 all_goals first
  |(refine af rfl ?_;show AV.d (D.bool false)=_;rw[hv];simp only[*, if_true,if_false,aD];done)
  |(refine af rfl ?_;show AV.d (D.bool (nT z))=_;rw[hv];simp only[*, if_true,if_false,aD];done)
  |fail
theorem MX(q:aV):NQ.Fn cx 85 [.agg (cS q)] (.d (.bool (bK q))) []:=by
 refine aA aO mixed Tryz.func85 (by kernel_rfl) rfl (ah rfl) ?_;conv=>whnf
 repeat' (first|(refine⟨_,_,jo _,?_⟩;conv=>whnf)|(refine⟨(by kernel_rfl:bf _ _=true),?_⟩;conv=>whnf)|(refine ae (λh=>?_) (λh=>?_) <;> (rw[h];conv=>whnf))|fail)
 all_goals first
  |(refine af rfl ?_;show AV.d (D.bool false)=_;(try simp only[ak]at *);simp only[bK, *, if_true,if_false,aD];done)
  |(refine af rfl ?_;show AV.d (D.bool _)=_;simp only[bK, *, if_true,if_false,aD];done)
  |fail
end Go.Proofs.YtjapjahfllomkaaGreatDoor
namespace NP
open NQ Go
theorem xo{s:Bs}(h:au s=true):bj (bw s)=(bj s).tail:=rS (Aa (List.tail_suffix _) (oI h))
theorem ga{s:Bs}(h:au s=true):au (bw s)=true:=FX (List.tail_suffix _) h
theorem kT{n z:Bs}(hn:au n=true)(h:aH n z=true)(hne:n≠z):n≠[46]/\aH (bw n) z=true/\(bj (bw n)).length+1=(bj n).length:=by
 unfold aH at h ⊢;rw[xo hn];have hs:=List.isSuffixOf_iff_suffix.1 h;cases hl:bj n with
 |nil =>
  rw[hl]at hs;have:bj z=[]:=List.suffix_nil.1 hs;exact absurd (yy (by rw[hl,this])) hne
 |cons x t =>
  rw[hl]at hs;refine⟨λe=>by rw[e]at hl;simp[bj]at hl,?_,by simp⟩;rcases List.suffix_cons_iff.1 hs with k|k
  . exact absurd (yy (by rw[hl,k])) hne
  . exact List.isSuffixOf_iff_suffix.2 k
theorem Ph{l:List Signed}{q:aV}{c:Nat}(h:foundAt l q c=true):∃s,l[c]? =some s/\plc s q=0:=by
 unfold foundAt at h;split at h
 . rename_i s hs;exact⟨s,hs,by simpa using h⟩
 . cases h
theorem tA{z:aF}(ho:Ordered z){q:aV}(hq:au q.name=true)(h:cP z.sets q=true):∃s,z.sets[posOf z.sets q]? =some s/\s∈z.sets/\s.place=q.place:=by
 obtain⟨_,h2⟩:=yO q hq z.sets ho.rising ho.name;rw[h]at h2;obtain⟨s,hs,hp⟩:=Ph h2;have hm:=aq hs;exact⟨s,hs,hm,(iY.zero _ _).1 (by rw[<- Fs (ho.name s hm) hq];exact hp)⟩
theorem bC{z:aF}(h:aY z=true):Ordered z:=by
 unfold aY at h;simp only[aB]at h;exact Ordered.of h.1.1
theorem qX{s:gG}(h:dP s=true):∃d,s.data[0]? =some d:=by
 unfold dP at h;simp only[aB,Bool.not_eq_true',Bool.or_eq_false_iff,Bool.not_eq_false']at h;have h1:=h.1.1.2;unfold within at h1;simp at h1;exact⟨_,ag (by omega)⟩
def gz(z:aF):Int:=match z.sets[posOf z.sets ⟨z.apex,4⟩]? with|some s=>(match s.set.data[0]? with|some d=>d.n|none=>0)|none=>0
def dY(z:aF):Int×Int:=if (!aY z)=true then(0,1)else(gz z,0)
def lQ(z:aF):Nat->Bs->Option Bs
 |0,_=>none
 |f+1,n=>if n=z.apex then none else if cP z.sets ⟨n,2⟩=true then some n else lQ z f (bw n)
def rI(z:aF)(s:Bs):Option Bs:=lQ z ((bj s).length+1) s
def fY(z:aF)(s:Bs):Bs×Bool×Int :=
 if (!au s|| !aY z)=true then([],false,1)else if (!(bz s z.apex).1)=true then([],false,20)
 else match rI z s with|some c=>(c,true,0)|none=>([],false,0)
end NP
namespace Go.Proofs.YtjapjahfllomkaaGreatDoor
open NQ Go NP Go.RowKit
theorem Cs(z:aF):NQ.Fn cx 132 [.agg (aW z)] (.tuple [.d (.int .i64 (dY z).1),.d (.int .i64 (dY z).2)]) []:=by
 refine aA aO mixed Tryz.func132 (by kernel_rfl) rfl (ah rfl) ?_;conv=>whnf
 (refine⟨_,_,rn z,?_⟩;conv=>whnf)
 (refine ae (λh=>?_) (λh=>?_) <;> (rw[h];conv=>whnf))
 . refine af rfl ?_;rw[dY,if_pos h];rfl
 have hv:aY z=true:=by simpa using h
 have ho:=bC hv
 (refine⟨_,_,wA ho ⟨z.apex,4⟩ ho.apex,?_⟩;conv=>whnf)
 have hh:cP z.sets ⟨z.apex,4⟩=true:=by
  unfold aY iG at hv;simp only[aB]at hv;exact hv.1.2.1.1
 obtain⟨s,hs,hm,_⟩:=tA ho (q:=⟨z.apex,4⟩) ho.apex hh;obtain⟨d,hd⟩:=qX (ho.set s hm);refine⟨av _,az s,aC hs,?_⟩
 conv=>whnf
 refine⟨by decide,bt d,aC (k:=0) hd,?_⟩
 conv=>whnf
 refine af rfl ?_;rw[dY,if_neg (by simp[hv])];simp only[gz,hs,hd];rfl
theorem SZ(z:aF)(s:Bs):NQ.Fn cx 37 [.agg (aW z),.str s] (.tuple [.d (.str (fY z s).1),.d (.bool (fY z s).2.1),.d (.int .i64 (fY z s).2.2)]) []:=by
 refine aA aO mixed Tryz.func37 (by kernel_rfl) rfl (ah rfl) ?_;conv=>whnf
 (refine⟨_,_,jo s,?_⟩;conv=>whnf)
 (refine ae (λh=>?_) (λh=>?_) <;> (rw[h];conv=>whnf))
 . refine af rfl ?_;rw[fY,h];rfl
 (refine⟨_,_,rn z,?_⟩;conv=>whnf)
 (refine ae (λh=>?_) (λh=>?_) <;> (rw[h];conv=>whnf))
 . refine af rfl ?_;rw[fY,if_pos (by simp only[*, if_true,if_false,aD])];rfl
 have hvs:au s=true:=by simp only[Bool.not_eq_false']at *; assumption
 have hv:aY z=true:=by simp only[Bool.not_eq_false']at *; assumption
 have ho:=bC hv;have h0:¬(!au s|| !aY z)=true:=by simp[hvs,hv]
 (refine⟨_,_,pL s z.apex,?_⟩;conv=>whnf)
 (refine ae (λh=>?_) (λh=>?_) <;> (rw[h];conv=>whnf))
 . refine af rfl ?_;rw[fY,if_neg h0,if_pos (by assumption)];rfl
 have hu:bz s z.apex=(true,0):=by
  have h3:(bz s z.apex).1=true:=by simp only[Bool.not_eq_false']at *; assumption
  unfold bz at h3 ⊢;rw[if_pos ⟨hvs,ho.apex⟩]at h3 ⊢;rw[show aH s z.apex=true from h3]
 have hR:fY z s=(match rI z s with|some c=>(c,true,0)|none=>([],false,0)):=by
  rw[fY,if_neg h0,hu];rfl
 have hun:aH s z.apex=true:=by
  unfold bz at hu;rw[if_pos ⟨hvs,ho.apex⟩]at hu;exact(Prod.mk.inj hu).1
 refine⟨Bs,λn=>⟨[(2,.ptr 2 0),(9,.ptr 9 0),(10,.d (.str n))],[(2,.box ((aW z).map .d)),(9,.box ((aW z).map .d))]⟩,
  λn=>au n=true/\aH n z.apex=true/\lQ z ((bj n).length+1) n=rI z s,λn=>(bj n).length,
  ⟨s,⟨hvs,hun,rfl⟩,aj.keep ⟨ab,ab,ab,trivial⟩ ⟨ab,ab,trivial⟩⟩,λn ⟨hvn,hn,hc⟩=>?_⟩
 conv=>whnf
 refine ae (λh1=>?_) (λh1=>?_) <;> (rw[h1];conv=>whnf)
 . have hne:n≠z.apex:=by simpa using h1
   obtain⟨k1,k2,k3⟩:=kT hvn hn hne;rw[lQ,if_neg hne]at hc
   (refine⟨_,_,wA ho ⟨n,2⟩ hvn,?_⟩;conv=>whnf)
   refine ae (λh2=>?_) (λh2=>?_) <;> (rw[h2];conv=>whnf)
   . refine af rfl ?_;rw[if_pos h2]at hc;rw[hR, <- hc];rfl
   . rw[if_neg (by rw[h2];exact Bool.false_ne_true), <- k3]at hc;have hp:dQ n=(bw n,0):=by unfold dQ;rw[if_pos hvn,if_neg k1]
     have hpf:=om n;rw[hp]at hpf
     (refine⟨_,_,hpf,?_⟩;conv=>whnf)
     exact⟨bw n,⟨ga hvn,k2,hc⟩,by(show(bj (bw n)).length<(bj n).length;omega),aj.keep ⟨ab,ab,ab,trivial⟩ ⟨ab,ab,trivial⟩⟩
 . have hne:n=z.apex:=by simpa using h1
   rw[lQ,if_pos hne]at hc;refine af rfl ?_;rw[hR, <- hc];rfl
end Go.Proofs.YtjapjahfllomkaaGreatDoor
namespace NP
open NQ Go
def nU(l:List Bs):Bs:=(l[l.length-1]?).getD []
theorem wD{acc:List Bs}(h:(((acc.map aP).length:Int)==0)=false):acc.length≠0:=by simp at h;simpa using h
theorem PD{acc:List Bs}(h:(((acc.map aP).length:Int)==0)=false):(acc.map aP)[((acc.length-1:Nat):Int).toNat]? =some (aP (nU acc)):=by
 have h' :=wD h;rw[Int.toNat_natCast,aQ,nU,ag (by omega)];rfl
theorem MG{acc:List Bs}(hl:acc.length<=100000)(h:(((acc.map aP).length:Int)==0)=false):IntKind.i64.wrap (((acc.map aP).length:Int)-1)=((acc.length-1:Nat):Int):=by
 have h' :=wD h;rw[ak,wrap_i64 (by omega) (by omega)];omega
theorem RT{acc:List Bs}(h:(((acc.map aP).length:Int)==0)=false):((acc.length-1:Nat):Int).toNat<(acc.map aP).length:=by
 have h' :=wD h;simp;omega
end NP
namespace Go.Proofs.YtjapjahfllomkaaGreatDoor
open NQ Go NP Go.RowKit
end Go.Proofs.YtjapjahfllomkaaGreatDoor
namespace NP
open NQ Go
def sN(c:Int):Bool:=((decide (c<97)||decide (c>122))&&(decide (c<48)||decide (c>57)))&&(c != 32)
theorem CE(c:UInt8):sN (c.toNat:Int)= !fe c:=by
 have:∀n:Fin 256,sN ((UInt8.ofNat n.val).toNat:Int)= !fe (UInt8.ofNat n.val):=by decide +kernel
 have h:=this ⟨c.toNat,c.toNat_lt⟩;simpa using h
def pv(s:Bs)(i:Nat):Bool:=match s[i]? with|some c=> !sN (c.toNat:Int)|none=>false
theorem SD(s:Bs):(List.range s.length).all (pv s)=s.all fe:=by
 rw[Bool.eq_iff_iff,ax,ax];constructor
 . intro h x hx;obtain⟨j,hj,rfl⟩:=List.getElem_of_mem hx;have:=h j (List.mem_range.2 hj);simp only[pv,ag hj,CE,oL]at this;exact this
 . intro h i hi;have hi:=List.mem_range.1 hi;simp only[pv,ag hi,CE,oL];exact h _ (List.getElem_mem hi)
def we(s:Bs)(a b:UInt8):Bool:= !(decide ((s.length:Int)<1)||decide ((s.length:Int)>40)||((a.toNat:Int)==32)||((b.toNat:Int)==32))&&(List.range s.length).all (pv s)
theorem Ld{s:Bs}(h:¬s.length=0)(a b:UInt8)(ha:s[0]? =some a)(hb:s[s.length-1]? =some b):we s a b=bW s:=by
 have e1:((a.toNat:Int)==32)=(a==32):=by rw[Bool.eq_iff_iff,beq_iff_eq,beq_iff_eq, <- UInt8.toNat_inj];simp;omega
 have e2:((b.toNat:Int)==32)=(b==32):=by rw[Bool.eq_iff_iff,beq_iff_eq,beq_iff_eq, <- UInt8.toNat_inj];simp;omega
 have h1:s.head? =some a:=by rw[List.head?_eq_getElem?,ha]
 have h2:s.getLast? =some b:=by rw[List.getLast?_eq_getElem?,hb]
 unfold we bW;rw[e1,e2,h1,h2,SD];rw[Bool.eq_iff_iff];simp
 intros;omega
end NP
namespace Go.Proofs.YtjapjahfllomkaaGreatDoor
open NQ Go NP Go.RowKit
theorem yX(s:Bs):NQ.Fn cx 246 [.str s] (.d (.bool (fm s))) []:=by
 refine aA aO mixed Tryz.func246 (by kernel_rfl) rfl (ah rfl) ?_;conv=>whnf
 (refine ae (λh=>?_) (λh=>?_) <;> (rw[h];conv=>whnf))
 . cases s with
   |nil=>simp at h
   |cons c t =>
    refine⟨by decide,c,rfl,?_⟩
    conv=>whnf
    refine af rfl ?_;show AV.d (D.bool ((c.toNat:Int)==42))=_
    rw[fm,List.head?_cons];have:((c.toNat:Int)==42)=(c==42):=by rw[Bool.eq_iff_iff,beq_iff_eq,beq_iff_eq, <- UInt8.toNat_inj];simp;omega
    rw[this];rfl
 . refine af rfl ?_;cases s with
   |nil=>rfl
   |cons c t=>simp at h
theorem xO(n a b:Int):NQ.Fn cx 244 [.int .i64 n,.int .i64 a,.int .i64 b] (.d (.bool (within n a b))) []:=by
 refine aA aO mixed Tryz.func244 (by kernel_rfl) rfl (ah rfl) ?_;conv=>whnf
 (refine ae (λh=>?_) (λh=>?_) <;> (rw[h];conv=>whnf))
 . refine af rfl ?_;show AV.d (D.bool _)=_;simp only[within,ge_iff_le]at *; rw[h];rfl
 . refine af rfl ?_;show AV.d (D.bool _)=_;simp only[within,ge_iff_le]at *; rw[h];rfl
theorem Hj(n:Int):NQ.Fn cx 245 [.int .i64 n] (.d (.bool ((n==3)||(n==4)))) []:=by
 refine aA aO mixed Tryz.func245 (by kernel_rfl) rfl (ah rfl) ?_;conv=>whnf
 (refine ae (λh=>?_) (λh=>?_) <;> (rw[h];conv=>whnf)) <;> exact af rfl rfl
theorem Nx(s:Bs):NQ.Fn cx 293 [.str s] (.d (.bool (bW s))) []:=by
 refine aA aO mixed Tryz.func293 (by kernel_rfl) rfl (ah rfl) ?_;conv=>whnf
 (refine ae (λh=>?_) (λh=>?_) <;> (rw[h];conv=>whnf))
 . refine af rfl ?_;show AV.d (D.bool false)=_
   have:s.length=0:=by simp at h;omega
   have:s=[]:=List.length_eq_zero_iff.1 this;subst this;rfl
 have h0:¬s.length=0:=by simp at h;omega
 obtain⟨a,ha⟩:∃a,s[0]? =some a:=⟨_,ag (by omega)⟩
 obtain⟨b,hb⟩:∃b,s[s.length-1]? =some b:=⟨_,ag (by omega)⟩
 rw[<- Ld h0 a b ha hb]
 (refine ae (λh=>?_) (λh=>?_) <;> (rw[h];conv=>whnf))
 . (refine af rfl ?_;show AV.d (D.bool false)=_;(try simp only[ak]at *);simp only[we, *, if_true,if_false,aD];done)
 have hl:s.length<=40:=by simp at *; omega
 have hw:IntKind.i64.wrap ((s.length:Int)-1)=((s.length-1:Nat):Int):=by rw[wrap_i64 (by omega) (by omega)];omega
 refine⟨by decide,a,ha,?_⟩
 conv=>whnf
 (refine ae (λh=>?_) (λh=>?_) <;> (rw[h];conv=>whnf))
 . (refine af rfl ?_;show AV.d (D.bool false)=_;(try simp only[ak]at *);simp only[we, *, if_true,if_false,aD];done)
 rw[hw];refine⟨av _,b,by(rw[Int.toNat_natCast];exact hb),?_⟩
 conv=>whnf
 (refine ae (λh=>?_) (λh=>?_) <;> (rw[h];conv=>whnf))
 . (refine af rfl ?_;show AV.d (D.bool false)=_;(try simp only[ak]at *);simp only[we, *, if_true,if_false,aD];done)
 have hyes:we s a b=(List.range s.length).all (pv s):=by simp only[we, *, if_true,if_false,aD]
 refine⟨Nat,λk=>⟨[(0,.d (.str s)),(3,.d (.int .i64 (s.length:Int))),(4,.d (.int .i64 k))],[]⟩,λk=>k<=s.length/\(List.range k).all (pv s)=true,λk=>s.length-k,⟨0,⟨by omega,rfl⟩,aj.keep ⟨ab,ab,ab,trivial⟩ trivial⟩,λk ⟨hk,hall⟩=>?_⟩;(conv=>whnf);refine ae (λh1=>?_) (λh1=>?_) <;> (rw[h1];conv=>whnf)
 . have hlt:k<s.length:=by simp at h1;omega
   obtain⟨c,hc⟩:∃c,s[k]? =some c:=⟨_,ag hlt⟩
   have hat:pv s k= !sN (c.toNat:Int):=by simp only[pv,hc]
   have hno:pv s k=false->we s a b=false:=λhh=>by rw[hyes,bI hlt hh]
   refine⟨av k,c,by(rw[Int.toNat_natCast];exact hc),?_⟩
   conv=>whnf
   repeat' (first
    |(refine af rfl ?_;show AV.d (D.bool false)=_;(try simp only[ak]at *);rw[hno (by rw[hat];simp only[sN, *, if_true,if_false,aD])];done)
    |(refine⟨k+1,⟨by omega,?_⟩,by(show s.length-(k+1)<s.length-k;omega),aj.keep ⟨ab,ab,⟨ao (by omega),rfl⟩,trivial⟩ trivial⟩;rw[bR,hall,hat];((try simp only[ak]at *);simp only[sN, *, if_true,if_false,aD];done))
    |(refine ae (λh=>?_) (λh=>?_) <;> (rw[h];conv=>whnf))
    |fail)
 . (refine af rfl ?_;obtain rfl:k=s.length:=(by simp at h1;omega);show AV.d (D.bool true)=_;rw[hyes,hall])
theorem Jz(t:Int)(d:Datum):NQ.Fn cx 247 [.int .i64 t,.agg (bt d)] (.d (.bool (within t 1 8&&dZ (eG t) d))) []:=by
 refine aA aO mixed Tryz.func247 (by kernel_rfl) rfl (ah rfl) ?_;conv=>whnf
 repeat' (first|(refine⟨_,_,xO _ _ _,?_⟩;conv=>whnf)|(refine⟨_,_,yX _,?_⟩;conv=>whnf)|(refine⟨_,_,qB _,?_⟩;conv=>whnf)|(refine⟨_,_,Nx _,?_⟩;conv=>whnf)|(refine ae (λh=>?_) (λh=>?_) <;> (rw[h];conv=>whnf))|fail)
 all_goals
  refine af rfl ?_
  first
   |(simp_all [D.cY,eG,dZ,jk];done)
   |(simp_all [D.cY,eG,dZ,jk,within];done)
   |(simp_all [D.cY,eG,dZ,jk,within];(try rw[Bool.eq_iff_iff]);(try simp_all);(try omega))
   |skip
theorem MI(a b:Datum):NQ.Fn cx 248 [.agg (bt a),.agg (bt b)] (.d (.bool (decide (pA a b<0)))) []:=by
 refine aA aO mixed Tryz.func248 (by kernel_rfl) rfl (ah rfl) ?_;conv=>whnf
 (refine ae (λh=>?_) (λh=>?_) <;> (rw[h];conv=>whnf))
 . have hz:¬Go.Lib.compareBytes a.text b.text=0:=λe=>by
    rw[(bP.zero _ _).1 e]at h;simp at h
   refine af rfl ?_;rw[pA,if_neg hz];show AV.d (D.bool (Op.bytesLess a.text b.text))=_
   rw[oN]
   congr 2;rw[decide_eq_decide]
   rcases bP.range a.text b.text with e|e|e <;> omega
 . have hz:Go.Lib.compareBytes a.text b.text=0:=(bP.zero _ _).2 (by simpa using h);rw[pA,if_pos hz]
   (refine ae (λh=>?_) (λh=>?_) <;> (rw[h];conv=>whnf))
   . have hz:¬cZ a.n b.n=0:=λe=>by
      rw[(tc.zero _ _).1 e]at h;simp at h
     refine af rfl ?_;rw[if_neg hz];show AV.d (D.bool (decide (a.n<b.n)))=_
     congr 2;rw[decide_eq_decide];unfold cZ;split <;> (try split) <;> omega
   . have hz:cZ a.n b.n=0:=(tc.zero _ _).2 (by simpa using h);refine af rfl ?_;rw[if_pos hz];show AV.d (D.bool (decide (a.m<b.m)))=_
     congr 2;rw[decide_eq_decide];unfold cZ;split <;> (try split) <;> omega
theorem Kr(a b:gG)(ha:au a.name=true)(hb:au b.name=true):NQ.Fn cx 249 [.agg (mV a),.agg (mV b)] (.d (.int .i64 (cpl (a.name,a.type) (b.name,b.type)))) []:=by
 refine aA aO mixed Tryz.func249 (by kernel_rfl) rfl (ah rfl) ?_;conv=>whnf
 (refine⟨_,_,Gh _ _ ha hb,?_⟩;conv=>whnf)
 repeat' (first|(refine ae (λh=>?_) (λh=>?_) <;> (rw[h];conv=>whnf))|fail)
 all_goals
  refine af rfl ?_
  simp_all [D.cY,cpl,lex,cZ]
 rw[if_neg (by omega),if_neg (by omega)]
end Go.Proofs.YtjapjahfllomkaaGreatDoor
namespace NP
open NQ Go
def wM(t:Int)(i:Nat)(d p:Datum):Bool:= !(within t 1 8&&dZ (eG t) d)||(decide ((i:Int)>0)&& !decide (pA p d<0))
def rY(t:Int)(l:List Datum)(i:Nat):Bool:=match l[i]?, l[i-1]? with|some d,some p=> !wM t i d p|_,_=>false
def yJ(s:gG):Bool :=
 !((!au s.name|| !within s.type 1 8|| !within s.life 0 100000|| !within s.data.length 1 8||(((s.type==3)||(s.type==4))&&decide ((s.data.length:Int)>1))) ||
  (fm s.name&&(s.type != 1)&&(s.type != 5)&&(s.type != 8)))&&(List.range s.data.length).all (rY s.type s.data)
theorem Ss(s:gG):yJ s=dP s:=by
 by_cases ht:within s.type 1 8=true
 . have h8:s.type=1\/s.type=2\/s.type=3\/s.type=4\/s.type=5\/s.type=6\/s.type=7\/s.type=8:=by
    unfold within at ht;simp at ht;omega
   have hat:∀i,rY s.type s.data i=nQ (eG s.type) s.data i:=by
    intro i;unfold rY nQ;cases s.data[i]? with
    |none=>rfl
    |some d =>
     cases s.data[i-1]? with
     |none=>rfl
     |some p =>
      show(!wM s.type i d p)= !mK (eG s.type) i d p
      unfold wM mK;rw[ht,dC]
      congr 3
      rw[Bool.eq_iff_iff];simp
   have hall:(List.range s.data.length).all (rY s.type s.data)=(List.range s.data.length).all (nQ (eG s.type) s.data):=by
    rw[show rY s.type s.data=nQ (eG s.type) s.data from funext hat]
   unfold yJ dP;rw[hall,ht];cases hw:within (s.data.length:Int) 1 8
   . simp
   have hl:1<=s.data.length:=by unfold within at hw;simp at hw;omega
   congr 1
   have e1:((s.data.length:Int) != 1)=decide ((s.data.length:Int)>1):=by
    rw[Bool.eq_iff_iff];simp;omega
   rw[e1];rcases h8 with h|h|h|h|h|h|h|h <;> simp[h,eG] <;> cases au s.name <;> cases within s.life 0 100000 <;> cases fm s.name <;> simp
 . have ht:within s.type 1 8=false:=by simpa using ht
   simp[yJ,dP,ht]
end NP
namespace Go.Proofs.YtjapjahfllomkaaGreatDoor
open NQ Go NP Go.RowKit
theorem FI(s:gG):NQ.Fn cx 186 [.agg (mV s)] (.d (.bool (dP s))) []:=by
 rw[<- Ss];refine aA aO mixed Tryz.func186 (by kernel_rfl) rfl (ah rfl) ?_;conv=>whnf
 repeat' (first|(refine af rfl ?_;show AV.d (D.bool false)=_;(try simp only[ak]at *);simp only[yJ, *, if_true,if_false,aD];done)|(refine⟨_,_,qB _,?_⟩;conv=>whnf)|(refine⟨_,_,xO _ _ _,?_⟩;conv=>whnf)|(refine⟨_,_,Hj _,?_⟩;conv=>whnf)|(refine⟨_,_,yX _,?_⟩;conv=>whnf)|(refine ae (λh=>?_) (λh=>?_) <;> (rw[h];conv=>whnf))|fail)
 all_goals
  have hlen:s.data.length<=8:=by
   have hh:= ‹(!within (↑(List.map bt s.data).length) 1 8)=false›;unfold within at hh;simp at hh;omega
  have hyes:yJ s=(List.range s.data.length).all (rY s.type s.data):=by
   simp only[ak]at *;simp only[yJ, *, if_true,if_false,aD]
  refine⟨Nat,λk=>⟨[(1,.ptr 1 0),(3,.d (.int .i64 ((s.data.map bt).length:Int))),(4,.d (.int .i64 k))],[(1,.box ((mV s).map .d))]⟩,λk=>k<=s.data.length/\(List.range k).all (rY s.type s.data)=true,λk=>s.data.length-k,⟨0,⟨by omega,rfl⟩,aj.keep ⟨ab,ab,ab,trivial⟩ ⟨ab,trivial⟩⟩,λk ⟨hk,hall⟩=>?_⟩;(conv=>whnf);refine ae (λh1=>?_) (λh1=>?_) <;> (rw[h1];conv=>whnf)
  . have hlt:k<s.data.length:=by simp at h1;omega
    obtain⟨d,hd⟩:∃d,s.data[k]? =some d:=⟨_,ag hlt⟩
    obtain⟨p,hp⟩:∃p,s.data[k-1]? =some p:=⟨_,ag (by omega)⟩
    have hat:rY s.type s.data k= !wM s.type k d p:=by simp only[rY,hd,hp]
    have hno:rY s.type s.data k=false->yJ s=false:=λhh=>by rw[hyes,bI hlt hh]
    repeat' (first
     |(refine⟨(by kernel_rfl:bf _ _=true),?_⟩;conv=>whnf)
     |(refine af rfl ?_;show AV.d (D.bool false)=_;(try simp only[ak]at *);rw[hno (by rw[hat];simp only[wM, *, if_true,if_false,aD])];done)
     |(refine⟨k+1,⟨by omega,?_⟩,by(show s.data.length-(k+1)<s.data.length-k;omega),aj.keep ⟨ab,ab,⟨ao (by omega),rfl⟩,trivial⟩ ⟨ab,trivial⟩⟩;rw[bR,hall,hat];((try simp only[ak]at *);simp only[wM, *, if_true,if_false,aD];done))
     |(refine⟨_,_,Jz _ _,?_⟩;conv=>whnf)
     |(refine⟨_,_,MI _ _,?_⟩;conv=>whnf)
     |(refine⟨(ik (by assumption) (by omega)).1,bt p,eE (by assumption) (by omega) hp,?_⟩;conv=>whnf)
     |(refine⟨av k,bt d,aC hd,?_⟩;conv=>whnf)
     |(refine ae (λh=>?_) (λh=>?_) <;> (rw[h];conv=>whnf))
     |fail)
  . (refine af rfl ?_;obtain rfl:k=s.data.length:=(by simp at h1;omega);show AV.d (D.bool true)=_;rw[hyes,hall])
end Go.Proofs.YtjapjahfllomkaaGreatDoor
namespace NP
open NQ Go
def atI(l:List Signed)(q:aV):Int:=match l.findIdx? (is q)with|some k=>(k:Int)|none=> -1
theorem nA(l:List Signed)(q:aV):decide (atI l q<0)= !cP l q:=by
 unfold atI cP;cases h:l.findIdx? (is q)with
 |some k =>
  have:=List.findIdx?_eq_some_iff_getElem.1 h;obtain⟨hk,h1,_⟩:=this;have:l.any (is q)=true:=List.any_eq_true.2 ⟨_,List.getElem_mem hk,h1⟩;rw[this];simp
 |none =>
  have:=List.findIdx?_eq_none_iff.1 h;have:l.any (is q)=false:=by rw[List.any_eq_false];intro x hx;rw[this x hx];simp
  rw[this];simp
def qd(l:List Signed)(q:aV)(i:Nat):Bool:=match l[i]? with|some x=> !is q x|none=>true
theorem Rp{l:List Signed}{q:aV}{k:Nat}{s:Signed}(hk:l[k]? =some s)(hs:is q s=true)(hb:(List.range k).all (qd l q)=true):atI l q=k:=by
 obtain⟨hl,e⟩:=ar.1 hk;have:l.findIdx? (is q)=some k:=List.findIdx?_eq_some_iff_getElem.2 ⟨hl,by rw[e];exact hs,λj hj=>by
  have:=ax.1 hb j (List.mem_range.2 hj);simp only[qd,ag (show j<l.length by omega)]at this;simpa using this⟩
 rw[atI,this]
theorem Oq{l:List Signed}{q:aV}(hb:(List.range l.length).all (qd l q)=true):atI l q= -1:=by
 have:l.findIdx? (is q)=none:=List.findIdx?_eq_none_iff.2 λx hx=>by
  obtain⟨j,hj,rfl⟩:=List.getElem_of_mem hx;have:=ax.1 hb j (List.mem_range.2 hj);simp only[qd,ag hj]at this;simpa using this
 rw[atI,this]
def qH(z:aF)(i:Nat):Bool:=match z.sets[i]? with|some s=> !(decide ((s.set.data.length:Int)>20)||decide ((s.sigs.length:Int)>20))|none=>false
def iv(z:aF):Bool:=decide ((z.sets.length:Int)<=100)&&(List.range z.sets.length).all (qH z)
def qQ(apex:Bs)(i:Nat)(s p:Signed):Bool:= !dP s.set|| !aH s.set.name apex||(decide ((i:Int)>0)&&decide (cpl (p.set.name,p.set.type) (s.set.name,s.set.type)>=0))
def rU(z:aF)(i:Nat):Bool:=match z.sets[i]?, z.sets[i-1]? with|some s,some p=> !qQ z.apex i s p|_,_=>false
def yC(z:aF):Bool:= !((!au z.apex||fm z.apex)||decide ((z.sets.length:Int)>20000))&&(List.range z.sets.length).all (rU z)
def vn(i:Nat)(apex:Bs)(g f p:Sig):Bool :=
 (!(g.zone==apex)||decide (g.key<1)||decide (g.key>1000000)||decide (g.alg<1)||decide (g.alg>3)||(g.since != f.since)||(g.till != f.till)||(decide ((i:Int)>0)&&decide (g.key<=p.key))) ||
  (decide (g.since<0)||decide (g.since>g.till)||decide (g.till>20000000))
def gAt(l:List Sig)(apex:Bs)(i:Nat):Bool:=match l[i]?, l[0]?, l[i-1]? with|some g,some f,some p=> !vn i apex g f p|_,_,_=>false
def gB(l:List Sig)(apex:Bs):Bool:= !decide ((l.length:Int)>6)&&(List.range l.length).all (gAt l apex)
end NP
namespace Go.Proofs.YtjapjahfllomkaaGreatDoor
open NQ Go NP Go.RowKit
theorem MW(t:Int)(ap:Bool):NQ.Fn cx 250 [.int .i64 t,.bool ap] (.d (.bool (fits t ap))) []:=by
 refine aA aO mixed Tryz.func250 (by kernel_rfl) rfl (ah rfl) ?_;conv=>whnf
 repeat' (first|(refine ae (λh=>?_) (λh=>?_) <;> (rw[h];conv=>whnf))|fail)
 all_goals refine af rfl ?_
 all_goals simp_all [D.cY,fits]
 all_goals (rw[Bool.eq_iff_iff];simp)
 all_goals (try omega)
theorem Dl(z:aF)(q:aV)(hn:z.sets.length<=100000):NQ.Fn cx 84 [.agg (aW z),.agg (cS q)] (.d (.int .i64 (atI z.sets q))) []:=by
 refine aA aO mixed Tryz.func84 (by kernel_rfl) rfl (ah rfl) ?_;conv=>whnf
 refine⟨Nat,λk=>⟨[(2,.ptr 2 0),(3,.ptr 3 0),(5,.d (.int .i64 k))],[(2,.box ((aW z).map .d)),(3,.box ((cS q).map .d))]⟩,λk=>k<=z.sets.length/\(List.range k).all (qd z.sets q)=true,λk=>z.sets.length-k,⟨0,⟨by omega,rfl⟩,aj.keep ⟨ab,ab,ab,trivial⟩ ⟨ab,ab,trivial⟩⟩,λk ⟨hk,hall⟩=>?_⟩;(conv=>whnf);refine ae (λh1=>?_) (λh1=>?_) <;> (rw[h1];conv=>whnf)
 . have hlt:k<z.sets.length:=by simp at h1;omega
   obtain⟨s,hs⟩:∃s,z.sets[k]? =some s:=⟨_,ag hlt⟩
   have hat:qd z.sets q k= !is q s:=by simp only[qd,hs]
   repeat' (first
    |(refine⟨(by kernel_rfl:bf _ _=true),?_⟩;conv=>whnf)
    |(refine af rfl ?_;rw[Rp hs (by simp only[is, *, if_true,if_false,aD]) hall];rfl)
    |(refine⟨k+1,⟨by omega,?_⟩,by(show z.sets.length-(k+1)<z.sets.length-k;omega),aj.keep ⟨ab,ab,⟨ao (by omega),rfl⟩,trivial⟩ ⟨ab,ab,trivial⟩⟩;rw[bR,hall,hat];((try simp only[ak]at *);simp only[is, *, if_true,if_false,aD];done))
    |(refine ae (λh=>?_) (λh=>?_) <;> (rw[h];conv=>whnf))
    |(refine⟨av k,az s,aC hs,?_⟩;conv=>whnf)
    |fail)
 . obtain rfl:k=z.sets.length:=(by simp at h1;omega)
   refine af rfl ?_;rw[Oq hall];rfl
theorem Tk(z:aF):NQ.Fn cx 42 [.agg (aW z)] (.d (.bool (iv z))) []:=by
 refine aA aO mixed Tryz.func42 (by kernel_rfl) rfl (ah rfl) ?_;conv=>whnf
 refine⟨Nat,λk=>⟨[(1,.ptr 1 0),(3,.d (.int .i64 k))],[(1,.box ((aW z).map .d))]⟩,λk=>k<=z.sets.length/\k<=101/\(List.range k).all (qH z)=true,λk=>101-k,
  ⟨0,⟨by omega,by omega,rfl⟩,aj.keep ⟨ab,ab,trivial⟩ ⟨ab,trivial⟩⟩,λk ⟨hk,hk',hall⟩=>?_⟩
 conv=>whnf
 refine ae (λh1=>?_) (λh1=>?_) <;> (rw[h1];conv=>whnf)
 . have hlt:k<z.sets.length:=by simp at h1;omega
   refine ae (λh2=>?_) (λh2=>?_) <;> (rw[h2];conv=>whnf)
   . have hlt' :k<=100:=by simp at h2;omega
     obtain⟨s,hs⟩:∃s,z.sets[k]? =some s:=⟨_,ag hlt⟩
     have hat:qH z k= !(decide ((s.set.data.length:Int)>20)||decide ((s.sigs.length:Int)>20)):=by simp only[qH,hs]
     have hno:qH z k=false->iv z=false:=λhh=>by rw[iv,bI hlt hh,gV]
     repeat' (first
      |(refine⟨(by kernel_rfl:bf _ _=true),?_⟩;conv=>whnf)
      |(refine af rfl ?_;show AV.d (D.bool false)=_;(try simp only[ak]at *);rw[hno (by rw[hat];simp only[qH, *, if_true,if_false,aD])];done)
      |(refine⟨k+1,⟨by omega,by omega,?_⟩,by(show 101-(k+1)<101-k;omega),aj.keep ⟨ab,⟨ao (by omega),rfl⟩,trivial⟩ ⟨ab,trivial⟩⟩;rw[bR,hall,hat];((try simp only[ak]at *);simp only[qH, *, if_true,if_false,aD];done))
      |(refine ae (λh=>?_) (λh=>?_) <;> (rw[h];conv=>whnf))
      |(refine⟨av k,az s,aC hs,?_⟩;conv=>whnf)
      |fail)
   . refine af rfl ?_;show AV.d (D.bool (decide (((z.sets.map az).length:Int)<=100)))=_
     have:decide ((z.sets.length:Int)<=100)=false:=by simp at h2 ⊢;omega
     rw[ak,iv,this];rfl
 . refine af rfl ?_;obtain rfl:k=z.sets.length:=(by simp at h1;omega)
   show AV.d (D.bool (decide (((z.sets.map az).length:Int)<=100)))=_
   rw[ak,iv,hall,gj]
theorem TM(z:aF)(hn:z.sets.length<=100000):NQ.Fn cx 188 [.agg (aW z)] (.d (.bool (iG (λt=>cP z.sets ⟨z.apex,t⟩) z))) []:=by
 refine aA aO mixed Tryz.func188 (by kernel_rfl) rfl (ah rfl) ?_;conv=>whnf
 (refine⟨_,_,Dl z ⟨z.apex,4⟩ hn,?_⟩;conv=>whnf)
 rw[nA]
 (refine ae (λh=>?_) (λh=>?_) <;> (rw[h];conv=>whnf))
 . (refine af rfl ?_;show AV.d (D.bool false)=_;(try simp only[Bool.not_eq_true',Bool.not_eq_false',ak]at *);simp only[iG, *, if_true,if_false,aD];done)
 (refine⟨_,_,Dl z ⟨z.apex,2⟩ hn,?_⟩;conv=>whnf)
 rw[nA]
 (refine ae (λh=>?_) (λh=>?_) <;> (rw[h];conv=>whnf))
 . (refine af rfl ?_;show AV.d (D.bool false)=_;(try simp only[Bool.not_eq_true',Bool.not_eq_false',ak]at *);simp only[iG, *, if_true,if_false,aD];done)
 have hyes:iG (λt=>cP z.sets ⟨z.apex,t⟩) z=(List.range z.sets.length).all (jv z):=by
  simp only[Bool.not_eq_false']at *; simp only[iG, *, if_true,if_false,aD]
 refine⟨Nat,λk=>⟨[(1,.ptr 1 0),(3,.d (.int .i64 k))],[(1,.box ((aW z).map .d))]⟩,λk=>k<=z.sets.length/\(List.range k).all (jv z)=true,λk=>z.sets.length-k,⟨0,⟨by omega,rfl⟩,aj.keep ⟨ab,ab,trivial⟩ ⟨ab,trivial⟩⟩,λk ⟨hk,hall⟩=>?_⟩;(conv=>whnf);refine ae (λh1=>?_) (λh1=>?_) <;> (rw[h1];conv=>whnf)
 . have hlt:k<z.sets.length:=by simp at h1;omega
   obtain⟨s,hs⟩:∃s,z.sets[k]? =some s:=⟨_,ag hlt⟩
   have hat:jv z k= !(!fits s.set.type (s.set.name==z.apex)):=by simp only[jv,hs,oL]
   have hno:jv z k=false->iG (λt=>cP z.sets ⟨z.apex,t⟩) z=false:=λhh=>by rw[hyes,bI hlt hh]
   repeat' (first
    |(refine⟨(by kernel_rfl:bf _ _=true),?_⟩;conv=>whnf)
    |(refine af rfl ?_;show AV.d (D.bool false)=_;(try simp only[ak]at *);rw[hno (by rw[hat];simp only[jv, *, if_true,if_false,aD])];done)
    |(refine⟨k+1,⟨by omega,?_⟩,by(show z.sets.length-(k+1)<z.sets.length-k;omega),aj.keep ⟨ab,⟨ao (by omega),rfl⟩,trivial⟩ ⟨ab,trivial⟩⟩;rw[bR,hall,hat];((try simp only[ak]at *);simp only[jv, *, if_true,if_false,aD];done))
    |(refine⟨_,_,MW _ _,?_⟩;conv=>whnf)
    |(refine⟨av k,az s,aC hs,?_⟩;conv=>whnf)
    |(refine ae (λh=>?_) (λh=>?_) <;> (rw[h];conv=>whnf))
    |fail)
 . (refine af rfl ?_;obtain rfl:k=z.sets.length:=(by simp at h1;omega);show AV.d (D.bool true)=_;rw[hyes,hall])
end Go.Proofs.YtjapjahfllomkaaGreatDoor
namespace NP
open NQ Go
theorem TY(l:List Sig)(apex:Bs):gB l apex=fZ l apex:=by
 have hat:∀i,gAt l apex i=nW l apex i:=by
  intro i;cases i with
  |zero =>
   simp only[gAt,nW,Nat.zero_sub];cases l[0]? with
   |none=>rfl
   |some g =>
    show(!vn 0 apex g g g)= !oF 0 apex g g g
    unfold vn oF;simp[Bool.or_assoc]
  |succ i =>
   simp only[gAt,nW];cases l[i+1]? with
   |none=>rfl
   |some g =>
    cases l[0]? with
    |none=>rfl
    |some f =>
     cases l[i+1-1]? with
     |none=>rfl
     |some p =>
      show(!vn (i+1) apex g f p)= !oF (i+1) apex g f p
      congr 1
      unfold vn oF;have:decide (((i+1:Nat):Int)>0)=true:=by simp
      rw[this];generalize (!(g.zone==apex))=a1;generalize decide (g.key<1)=a2;generalize decide (g.key>1000000)=a3;generalize decide (g.alg<1)=a4;generalize decide (g.alg>3)=a5;generalize (g.since != f.since)=a6;generalize (g.till != f.till)=a7;generalize decide (g.key<=p.key)=a8;generalize decide (g.since<0)=b1;generalize decide (g.since>g.till)=b2;generalize decide (g.till>20000000)=b3;cases a1 <;> cases a2 <;> cases a3 <;> cases a4 <;> cases a5 <;> simp;cases a6 <;> cases a7 <;> cases a8 <;> simp
 unfold gB fZ;rw[show gAt l apex=nW l apex from funext hat]
theorem Sl(z:aF):yC z=ordered z:=by
 unfold yC ordered;by_cases hv:au z.apex=true
 . congr 1
   by_cases hall:∀s∈z.sets,dP s.set=true
   . rw[Bool.eq_iff_iff,ax,ax];have heq:∀i,i<z.sets.length->rU z i=qS z i:=by
      intro i hi;obtain⟨s,hs⟩:∃s,z.sets[i]? =some s:=⟨_,ag hi⟩
      obtain⟨p,hp⟩:∃p,z.sets[i-1]? =some p:=⟨_,ag (by omega)⟩
      have vs:=jC (hall s (aq hs));have vp:=jC (hall p (aq hp));have hu:(bz s.set.name z.apex).1=aH s.set.name z.apex:=by unfold bz;rw[if_pos ⟨vs,hv⟩]
      rw[qi hs hp];simp only[rU,hs,hp];unfold qQ lL;rw[hu,td _ _ vp vs];have:decide ((i:Int)>0)= !((i:Int)==0):=by rw[Bool.eq_iff_iff];simp;omega
      rw[this]
     exact⟨λh i hi=>by rw[<- heq i (List.mem_range.1 hi)];exact h i hi,λh i hi=>by rw[heq i (List.mem_range.1 hi)];exact h i hi⟩
   . have⟨s,hm,hs⟩:∃s∈z.sets,dP s.set=false:=by
      simp only[Classical.not_forall]at hall;obtain⟨s,hm,hs⟩:=hall;exact⟨s,hm,by simpa using hs⟩
     obtain⟨i,hi⟩:=cm hm;obtain⟨hl,_⟩:=ar.1 hi;obtain⟨p,hp⟩:∃p,z.sets[i-1]? =some p:=⟨_,ag (by omega)⟩
     rw[bI hl (by simp only[rU,hi,hp,qQ,hs];rfl),bI hl (by rw[qi hi hp,lL,hs];rfl)]
 . simp[show au z.apex=false by simpa using hv]
end NP
namespace Go.Proofs.YtjapjahfllomkaaGreatDoor
open NQ Go NP Go.RowKit
theorem Pr(l:List Sig)(apex:Bs):NQ.Fn cx 253 [.slice 6 (l.map mY),.str apex] (.d (.bool (fZ l apex))) []:=by
 rw[<- TY];refine aA aO mixed Tryz.func253 (by kernel_rfl) rfl (ah rfl) ?_;conv=>whnf
 (refine ae (λh=>?_) (λh=>?_) <;> (rw[h];conv=>whnf))
 . (refine af rfl ?_;show AV.d (D.bool false)=_;(try simp only[ak]at *);simp only[gB, *, if_true,if_false,aD];done)
 have hl:l.length<=6:=by simp at h;omega
 have hyes:gB l apex=(List.range l.length).all (gAt l apex):=by
  simp only[ak]at *; simp only[gB, *, if_true,if_false,aD]
 refine⟨Nat,λk=>⟨[(0,.d (.slice 6 (l.map mY))),(1,.d (.str apex)),(5,.d (.int .i64 k))],[]⟩,λk=>k<=l.length/\(List.range k).all (gAt l apex)=true,λk=>l.length-k,⟨0,⟨by omega,rfl⟩,aj.keep ⟨ab,ab,ab,trivial⟩ trivial⟩,λk ⟨hk,hall⟩=>?_⟩;(conv=>whnf);refine ae (λh1=>?_) (λh1=>?_) <;> (rw[h1];conv=>whnf)
 . have hlt:k<l.length:=by simp at h1;omega
   obtain⟨g,hg⟩:∃g,l[k]? =some g:=⟨_,ag hlt⟩
   obtain⟨f,hf⟩:∃f,l[0]? =some f:=⟨_,ag (by omega)⟩
   obtain⟨p,hp⟩:∃p,l[k-1]? =some p:=⟨_,ag (by omega)⟩
   have hat:gAt l apex k= !vn k apex g f p:=by simp only[gAt,hg,hf,hp]
   have hno:gAt l apex k=false->gB l apex=false:=λhh=>by rw[hyes,bI hlt hh]
   repeat' (first
    |(refine⟨(by kernel_rfl:bf _ _=true),?_⟩;conv=>whnf)
    |(refine af rfl ?_;show AV.d (D.bool false)=_;(try simp only[ak]at *);rw[hno (by rw[hat];simp only[vn, *, if_true,if_false,aD])];done)
    |(refine⟨k+1,⟨by omega,?_⟩,by(show l.length-(k+1)<l.length-k;omega),aj.keep ⟨ab,ab,⟨ao (by omega),rfl⟩,trivial⟩ trivial⟩;rw[bR,hall,hat];((try simp only[ak]at *);simp only[vn, *, if_true,if_false,aD];done))
    |(refine ae (λh=>?_) (λh=>?_) <;> (rw[h];conv=>whnf))
    |(refine⟨(ik (by assumption) (by omega)).1,mY p,eE (by assumption) (by omega) hp,?_⟩;conv=>whnf)
    |(refine⟨by decide,mY f,aC (k:=0) hf,?_⟩;conv=>whnf)
    |(refine⟨av k,mY g,aC hg,?_⟩;conv=>whnf)
    |fail)
 . (refine af rfl ?_;obtain rfl:k=l.length:=(by simp at h1;omega);show AV.d (D.bool true)=_;rw[hyes,hall])
theorem TA(z:aF):NQ.Fn cx 187 [.agg (aW z)] (.d (.bool (ordered z))) []:=by
 rw[<- Sl];refine aA aO mixed Tryz.func187 (by kernel_rfl) rfl (ah rfl) ?_;conv=>whnf
 (refine⟨_,_,qB _,?_⟩;conv=>whnf)
 (refine ae (λh=>?_) (λh=>?_) <;> (rw[h];conv=>whnf))
 . (refine af rfl ?_;show AV.d (D.bool false)=_;(try simp only[ak]at *);simp only[yC, *, if_true,if_false,aD];done)
 have hva:au z.apex=true:=by simpa using h
 (refine⟨_,_,DC _ hva,?_⟩;conv=>whnf)
 repeat' (first|(refine ae (λh=>?_) (λh=>?_) <;> (rw[h];conv=>whnf))|(refine af rfl ?_;show AV.d (D.bool false)=_;(try simp only[ak]at *);simp only[yC, *, if_true,if_false,aD];done)|fail)
 have hn:z.sets.length<=20000:=by simp at *; omega
 have hyes:yC z=(List.range z.sets.length).all (rU z):=by
  simp only[ak]at *;simp only[yC, *, if_true,if_false,aD]
 refine⟨Nat,λk=>⟨[(1,.ptr 1 0),(3,.d (.int .i64 k))],[(1,.box ((aW z).map .d))]⟩,λk=>k<=z.sets.length/\(List.range k).all (rU z)=true,λk=>z.sets.length-k,⟨0,⟨by omega,rfl⟩,aj.keep ⟨ab,ab,trivial⟩ ⟨ab,trivial⟩⟩,λk ⟨hk,hall⟩=>?_⟩;(conv=>whnf);refine ae (λh1=>?_) (λh1=>?_) <;> (rw[h1];conv=>whnf)
 . have hlt:k<z.sets.length:=by simp at h1;omega
   obtain⟨s,hs⟩:∃s,z.sets[k]? =some s:=⟨_,ag hlt⟩
   obtain⟨p,hp⟩:∃p,z.sets[k-1]? =some p:=⟨_,ag (by omega)⟩
   have hat:rU z k= !qQ z.apex k s p:=by simp only[rU,hs,hp]
   have hno:rU z k=false->yC z=false:=λhh=>by rw[hyes,bI hlt hh]
   have hvp:decide ((k:Int)>0)=true->au p.set.name=true:=λh0=>by
    have:=ax.1 hall (k-1) (List.mem_range.2 (by simp at h0;omega));obtain⟨p',hp'⟩:∃p',z.sets[k-1-1]? =some p' :=⟨_,ag (by omega)⟩
    simp only[rU,hp,hp',qQ,Bool.not_eq_true',Bool.or_eq_false_iff,Bool.not_eq_false']at this;exact jC this.1.1
   refine⟨av k,az s,aC hs,?_⟩
   conv=>whnf
   (refine⟨(by kernel_rfl:bf _ _=true),?_⟩;conv=>whnf)
   (refine⟨_,_,FI s.set,?_⟩;conv=>whnf)
   refine ae (λh9=>?_) (λh9=>?_) <;> (rw[h9];conv=>whnf)
   . repeat' (first|(refine af rfl ?_;show AV.d (D.bool false)=_;(try simp only[ak]at *);rw[hno (by rw[hat];simp only[qQ, *, if_true,if_false,aD])];done)|fail)
   . have vs:au s.set.name=true:=jC (by simpa using h9)
     repeat' (first
      |(refine af rfl ?_;show AV.d (D.bool false)=_;(try simp only[ak]at *);rw[hno (by rw[hat];simp only[qQ, *, if_true,if_false,aD])];done)
      |(refine⟨k+1,⟨by omega,?_⟩,by(show z.sets.length-(k+1)<z.sets.length-k;omega),aj.keep ⟨ab,⟨ao (by omega),rfl⟩,trivial⟩ ⟨ab,trivial⟩⟩;rw[bR,hall,hat];((try simp only[ak]at *);simp only[qQ, *, if_true,if_false,aD];done))
      |(refine⟨_,_,ux _ _ (cz vs) (cz hva),?_⟩;conv=>whnf)
      |(refine⟨_,_,Kr p.set s.set (hvp (by assumption)) vs,?_⟩;conv=>whnf)
      |(refine⟨(ik (by assumption) (by omega)).1,az p,eE (by assumption) (by omega) hp,?_⟩;conv=>whnf)
      |(refine ae (λh=>?_) (λh=>?_) <;> (rw[h];conv=>whnf))
      |fail)
 . (refine af rfl ?_;obtain rfl:k=z.sets.length:=(by simp at h1;omega);show AV.d (D.bool true)=_;rw[hyes,hall])
end Go.Proofs.YtjapjahfllomkaaGreatDoor
namespace NP
open NQ Go
def cv(apex:Bs):List Signed->List Bs
 |[]=>[]
 |s::t=>if dj apex s=true then s.set.name::cv apex t else cv apex t
theorem pQ(apex:Bs):∀l,(cv apex l).length<=l.length
 |[]=>Nat.le_refl _
 |s::t=>by unfold cv;split <;> have:=pQ apex t <;> simp <;> omega
theorem mj(apex:Bs):∀(l:List Signed) c,c∈cv apex l-> ∃s∈l,s.set.name=c
 |[],c,h=>by cases h
 |s::t,c,h=>by
  unfold cv at h;split at h
  . rcases List.mem_cons.1 h with rfl|h
    . exact⟨s,List.mem_cons_self .., rfl⟩
    . obtain⟨x,hx,e⟩:=mj apex t c h;exact⟨x,aM _ hx,e⟩
  . obtain⟨x,hx,e⟩:=mj apex t c h;exact⟨x,aM _ hx,e⟩
def qK(acc:List Bs)(c:Bs):Bool:=((acc.length:Int)==0)|| !aH c (nU acc)
def kD:List Bs->List Bs->List Bs
 |acc,[]=>acc
 |acc,c::t=>kD (if qK acc c=true then acc++[c]else acc) t
def bG(z:aF):List Bs:=kD [] (cv z.apex z.sets)
theorem drop_cons{α:Type}{l:List α}{k:Nat}{x:α}(h:l[k]? =some x):l.drop k=x::l.drop (k+1):=by
 obtain⟨hl,e⟩:=ar.1 h;rw[List.drop_eq_getElem_cons hl,e]
theorem ml{acc:List Bs}(h:acc.length≠0):nU acc∈acc:=by
 rw[nU,ag (by omega)];exact List.getElem_mem _
end NP
namespace Go.Proofs.YtjapjahfllomkaaGreatDoor
open NQ Go NP Go.RowKit
theorem Rx(z:aF)(hn:z.sets.length<=100000):NQ.Fn cx 193 [.agg (aW z)] (.d (.slice 1 ((cv z.apex z.sets).map aP))) []:=by
 refine aA aO mixed Tryz.func193 (by kernel_rfl) rfl (ah rfl) ?_;conv=>whnf
 refine⟨Nat×List Bs,λx=>⟨[(1,.ptr 1 0),(3,.own 100),(4,.d (.int .i64 x.1))],[(1,.box ((aW z).map .d)),(100,.row 9 1 (x.2.map aP))]⟩,
  λx=>x.1<=z.sets.length/\x.2.length<=x.1/\x.2++cv z.apex (z.sets.drop x.1)=cv z.apex z.sets,λx=>z.sets.length-x.1,
  ⟨(0,[]),⟨by simp,by simp,rfl⟩,(aj.nF 3 100 1 9 1 rfl rfl (by decide)).trans (aj.keep ⟨ab,ab,ab,trivial⟩ ⟨ab,ab,trivial⟩)⟩,?_⟩
 rintro⟨k,acc⟩ ⟨hk,hl,hc⟩;simp only at hk hl hc
 conv=>whnf
 refine ae (λh1=>?_) (λh1=>?_) <;> (rw[h1];conv=>whnf)
 . have hlt:k<z.sets.length:=by simp at h1;omega
   obtain⟨s,hs⟩:∃s,z.sets[k]? =some s:=⟨_,ag hlt⟩
   rw[drop_cons hs,cv]at hc
   repeat' (first
    |(refine⟨(by kernel_rfl:bf _ _=true),?_⟩;conv=>whnf)
    |(refine⟨(k+1,acc),⟨hlt,by(show acc.length<=k+1;omega),(by simp only[dj, *, if_true,if_false,aD]at hc;exact hc)⟩,by(show z.sets.length-(k+1)<z.sets.length-k;omega),aj.keep ⟨ab,ab,⟨ao (by omega),rfl⟩,trivial⟩ ⟨ab,ab,trivial⟩⟩;done)
    |(refine⟨(k+1,acc++[s.set.name]),⟨hlt,by(simp;omega),(by simp only[dj, *, if_true,if_false,aD]at hc;rw[<- hc];simp)⟩,by(show z.sets.length-(k+1)<z.sets.length-k;omega),aj.keep ⟨ab,ab,⟨ao (by omega),rfl⟩,trivial⟩ ⟨ab,⟨by(show some (Blk.row _ _ (_++_))=some (Blk.row _ _ _);rw[List.map_append];rfl),rfl⟩,trivial⟩⟩;done)
    |(refine ae (λh=>?_) (λh=>?_) <;> (rw[h];conv=>whnf))
    |(refine⟨av k,az s,aC hs,?_⟩;conv=>whnf)
    |(refine⟨by(show(acc.map aP).length+1<=_;rw[ak];omega),by(show((acc.map aP).length+1)*16<=_;rw[ak];omega),?_⟩;conv=>whnf)
    |fail)
 . obtain rfl:k=z.sets.length:=by simp at h1;omega
   refine af rfl ?_;rw[List.drop_length,cv,List.append_nil]at hc;rw[<- hc];rfl
theorem JQ(z:aF)(hn:z.sets.length<=100000)(hv:∀s∈z.sets,au s.set.name=true):NQ.Fn cx 295 [.agg (aW z)] (.d (.slice 1 ((bG z).map aP))) []:=by
 refine aA aO mixed Tryz.func295 (by kernel_rfl) rfl (ah rfl) ?_;conv=>whnf
 (refine⟨_,_,Rx z hn,?_⟩;conv=>whnf)
 obtain⟨l,hl0⟩:∃l,l=cv z.apex z.sets:=⟨_,rfl⟩
 have hln:l.length<=100000:=by rw[hl0];exact Nat.le_trans (pQ _ _) hn
 have hlv:∀c∈l,c.length<=60:=λc hc=>by
  rw[hl0]at hc;obtain⟨s,hs,e⟩:=mj _ _ _ hc;rw[<- e];exact cz (hv s hs)
 rw[bG, <- hl0];clear hl0;refine⟨Nat×List Bs,λx=>⟨[(3,.d (.slice 1 (l.map aP))),(4,.own 100),(5,.d (.int .i64 x.1))],[(100,.row 9 1 (x.2.map aP))]⟩,
  λx=>x.1<=l.length/\x.2.length<=x.1/\(∀c∈x.2,c∈l)/\kD x.2 (l.drop x.1)=kD [] l,λx=>l.length-x.1,
  ⟨(0,[]),⟨by simp,by simp,by simp,rfl⟩,(aj.nF 4 100 1 9 1 rfl rfl (by decide)).trans (aj.keep ⟨ab,ab,ab,trivial⟩ ⟨ab,trivial⟩)⟩,?_⟩
 rintro⟨k,acc⟩ ⟨hk,hl,hm,hc⟩;simp only at hk hl hm hc
 conv=>whnf
 refine ae (λh1=>?_) (λh1=>?_) <;> (rw[h1];conv=>whnf)
 . have hlt:k<l.length:=by simp at h1;omega
   obtain⟨s,hs⟩:∃s,l[k]? =some s:=⟨_,ag hlt⟩
   have hms:=aq hs;rw[drop_cons hs,kD]at hc
   repeat' (first
    |(refine⟨(by kernel_rfl:bf _ _=true),?_⟩;conv=>whnf)
    |(refine⟨(k+1,acc),⟨hlt,by(show acc.length<=k+1;omega),hm,(by(try simp only[ak]at *);simp only[qK, *, if_true,if_false,aD]at hc;exact hc)⟩,by(show l.length-(k+1)<l.length-k;omega),aj.keep ⟨ab,ab,⟨ao (by omega),rfl⟩,trivial⟩ ⟨ab,trivial⟩⟩;done)
    |(refine⟨(k+1,acc++[s]),⟨hlt,by(simp;omega),(by intro c hc';rcases List.mem_append.1 hc' with q|q;exact hm c q;simp at q;rw[q];exact hms),(by(try simp only[ak]at *);simp only[qK, *, if_true,if_false,aD]at hc;exact hc)⟩,by(show l.length-(k+1)<l.length-k;omega),aj.keep ⟨ab,ab,⟨ao (by omega),rfl⟩,trivial⟩ ⟨⟨by(show some (Blk.row _ _ (_++_))=some (Blk.row _ _ _);rw[List.map_append];rfl),rfl⟩,trivial⟩⟩;done)
    |(refine⟨_,_,ux _ _ (hlv s hms) (hlv _ (hm _ (ml (wD (by assumption))))),?_⟩;conv=>whnf)
    |(refine ae (λh=>?_) (λh=>?_) <;> (rw[h];conv=>whnf))
    |(refine⟨av k,aP s,aC hs,?_⟩;conv=>whnf)
    |(rw[MG (acc:=acc) (by omega) (by assumption)];refine⟨av _,RT (acc:=acc) (by assumption),?_⟩;conv=>whnf)
    |(refine⟨_,PD (acc:=acc) (by assumption),?_⟩;conv=>whnf)
    |(refine⟨by(show(acc.map aP).length+1<=_;rw[ak];omega),by(show((acc.map aP).length+1)*16<=_;rw[ak];omega),?_⟩;conv=>whnf)
    |fail)
 . obtain rfl:k=l.length:=by simp at h1;omega
   refine af rfl ?_;rw[List.drop_length,kD]at hc;rw[<- hc];rfl
end Go.Proofs.YtjapjahfllomkaaGreatDoor
namespace NP
open NQ Go
def jq(cs:List Bs)(n:Bs)(k:Nat):Nat:=k+((cs.drop k).takeWhile λc=>decide (aI c n<=0)).length
theorem Ja{cs:List Bs}{n c:Bs}{k:Nat}(h:cs[k]? =some c)(hc:decide (aI c n<=0)=true):jq cs n (k+1)=jq cs n k:=by
 unfold jq;rw[drop_cons h,List.takeWhile_cons,if_pos hc,List.length_cons];omega
theorem Jb{cs:List Bs}{n c:Bs}{k:Nat}(h:cs[k]? =some c)(hc:decide (aI c n<=0)=false):jq cs n k=k:=by
 unfold jq;rw[drop_cons h,List.takeWhile_cons,hc];rfl
theorem Ls{cs:List Bs}{n:Bs}{k:Nat}(h:cs.length<=k):jq cs n k=k:=by
 unfold jq;rw[List.drop_eq_nil_of_le h];rfl
def lr(cs:List Bs)(j:Nat):Bs:=(cs[j-1]?).getD []
def rC(cs:List Bs)(j:Nat)(n:Bs):Bs:=if (decide ((j:Int)>0)&&aH n (lr cs j))=true then lr cs j else[]
def bGo(cs:List Bs):Nat->List Signed->List Bs
 |_,[]=>[]
 |k,s::t=>rC cs (jq cs s.set.name k) s.set.name::bGo cs (jq cs s.set.name k) t
def eB(z:aF):List Bs:=bGo (bG z) 0 z.sets
theorem yr:∀(l acc:List Bs) c,c∈kD acc l->c∈acc\/c∈l
 |[],acc,c,h=> .inl h
 |x::t,acc,c,h=>by
  rw[kD]at h;rcases yr t _ c h with q|q
  . split at q
    . rcases List.mem_append.1 q with q|q
      . exact .inl q
      . simp at q;subst q;exact .inr (List.mem_cons_self ..)
    . exact .inl q
  . exact .inr (aM _ q)
theorem xm:∀(l acc:List Bs),(kD acc l).length<=acc.length+l.length
 |[],acc=>by simp[kD]
 |x::t,acc=>by
  rw[kD];have:=xm t (if qK acc x=true then acc++[x]else acc);split at this <;> rename_i hh
  . rw[if_pos hh];simp at this ⊢;omega
  . rw[if_neg hh];simp at this ⊢;omega
theorem yF{cs:List Bs}{j:Nat}(hj:j<=cs.length)(h0:decide ((j:Int)>0)=true):cs[j-1]? =some (lr cs j):=by
 have:0<j:=by simpa using h0
 rw[lr,ag (by omega)];rfl
end NP
namespace Go.Proofs.YtjapjahfllomkaaGreatDoor
open NQ Go NP Go.RowKit
theorem BL(z:aF)(hn:z.sets.length<=100000)(hv:∀s∈z.sets,au s.set.name=true):NQ.Fn cx 251 [.agg (aW z)] (.d (.slice 1 ((eB z).map aP))) []:=by
 refine aA aO mixed Tryz.func251 (by kernel_rfl) rfl (ah rfl) ?_;conv=>whnf
 (refine⟨_,_,JQ z hn hv,?_⟩;conv=>whnf)
 obtain⟨l,hl0⟩:∃l,l=bG z:=⟨_,rfl⟩
 have hln:l.length<=100000:=by
  rw[hl0,bG];have:=xm (cv z.apex z.sets) [];have:=pQ z.apex z.sets;simp at *; omega
 have hlv:∀c∈l,c.length<=60:=λc hc=>by
  rw[hl0]at hc;rcases yr _ _ _ hc with q|q
  . cases q
  . obtain⟨s,hs,e⟩:=mj _ _ _ q;rw[<- e];exact cz (hv s hs)
 rw[eB, <- hl0];clear hl0;refine⟨by omega,.inl rfl,by omega,by(simp only[ak];omega),by(simp only[ak];omega),?_⟩
 conv=>whnf
 refine ⟨Nat × Nat × List Bs, fun x => ⟨[(1, .ptr 1 0), (3, .d (.slice 1 (l.map aP))), (4, .own 13), (5, .d (.int .i64 x.2.1)), (6, .d (.int .i64 x.1))],
     [(1,.box ((aW z).map .d)),(13,.row 9 1 ((x.2.2++List.replicate (z.sets.length-x.1) []).map aP) true)]⟩,
  λx=>x.1<=z.sets.length/\x.2.1<=l.length/\x.2.2.length=x.1/\x.2.2++bGo l x.2.1 (z.sets.drop x.1)=bGo l 0 z.sets,λx=>z.sets.length-x.1,
  ⟨(0,0,[]),⟨by simp,by simp,rfl,rfl⟩,aj.keep ⟨ab,ab,ab,ab,ab,trivial⟩ ⟨ab,⟨by(show some (Blk.row _ _ (List.replicate ((z.sets.map az).length:Int).toNat _) true)=some (Blk.row _ _ _ true);simp[aP];done),rfl⟩,trivial⟩⟩,?_⟩
 rintro⟨k,j0,done⟩ ⟨hk,hj0,hd,hc⟩;simp only at hk hj0 hd hc
 conv=>whnf
 refine ae (λh1=>?_) (λh1=>?_) <;> (rw[h1];conv=>whnf)
 . have hlt:k<z.sets.length:=by simp at h1;omega
   obtain⟨s,hs⟩:∃s,z.sets[k]? =some s:=⟨_,ag hlt⟩
   have hsl:s.set.name.length<=60:=cz (hv s (aq hs));rw[drop_cons hs,bGo]at hc;refine⟨av k,az s,aC hs,?_⟩
   conv=>whnf
   refine ⟨Nat, fun j => ⟨[(1, .ptr 1 0), (3, .d (.slice 1 (l.map aP))), (4, .own 13), (5, .d (.int .i64 j)), (6, .d (.int .i64 k)), (7, .d (.str s.set.name))],
       [(1,.box ((aW z).map .d)),(13,.row 9 1 ((done++List.replicate (z.sets.length-k) []).map aP) true)]⟩,
    λj=>j<=l.length/\jq l s.set.name j=jq l s.set.name j0,λj=>l.length-j,⟨j0,⟨hj0,rfl⟩,aj.keep ⟨ab,ab,ab,ab,ab,ab,trivial⟩ ⟨ab,ab,trivial⟩⟩,?_⟩
   rintro j ⟨hj,hadv⟩
   conv=>whnf
   have hrow:k<((done++List.replicate (z.sets.length-k) []).map aP).length:=by simp;omega
   have hrep:List.replicate (z.sets.length-k) ([]:Bs)=List.replicate ((z.sets.length-(k+1))+1) []:=by congr 1;omega
   have hset:∀c',((done++List.replicate (z.sets.length-k) []).map aP).set k (aP c')=((done++[c'])++List.replicate (z.sets.length-(k+1)) []).map aP:=λc' =>by
    rw[hrep, <- IM done _ c',List.map_set,hd]
   have hsame:(done++List.replicate (z.sets.length-k) []).map aP=((done++[[]])++List.replicate (z.sets.length-(k+1)) []).map aP:=by
    rw[hrep,List.replicate_succ];simp
   have hrk:((done++List.replicate (z.sets.length-k) []).map aP)[k]? =some (aP []):=by
    rw[aQ,bX (by omega),List.getElem?_replicate,if_pos (by omega)];rfl
   have hgo:∀c',jq l s.set.name j=j->rC l j s.set.name=c' ->(done++[c'])++bGo l j (z.sets.drop (k+1))=bGo l 0 z.sets:=λc' e e' =>by
    rw[<- hc, <- hadv,e,e',List.append_assoc];rfl
   have hpl:decide ((j:Int)>0)=true->(lr l j).length<=60:=λh0=>hlv _ (aq (yF hj h0))
   refine ae (λh2=>?_) (λh2=>?_) <;> (rw[h2];conv=>whnf)
   . have hjl:j<l.length:=by simp at h2;omega
     obtain⟨c,hcj⟩:∃c,l[j]? =some c:=⟨_,ag hjl⟩
     refine⟨av j,aP c,aC hcj,?_⟩
     conv=>whnf
     (refine⟨_,_,uz c s.set.name (hlv c (aq hcj)) hsl,?_⟩;conv=>whnf)
     refine ae (λh3=>?_) (λh3=>?_) <;> (rw[h3];conv=>whnf)
     . exact⟨j+1,⟨hjl,by rw[Ja hcj h3,hadv]⟩,by(show l.length-(j+1)<l.length-j;omega),aj.keep ⟨ab,ab,ab,⟨ao (by omega),rfl⟩,ab,ab,trivial⟩ ⟨ab,ab,trivial⟩⟩
     . have hst:=Jb hcj h3
       repeat' (first
        |(refine⟨(k+1,j,done++[lr l j]),⟨hlt,hj,by simp[hd],hgo _ hst (by simp only[rC, *, if_true,if_false,aD];done)⟩,by(show z.sets.length-(k+1)<z.sets.length-k;omega),aj.keep ⟨ab,ab,ab,ab,⟨ao (by omega),rfl⟩,trivial⟩ ⟨ab,⟨by(show some (Blk.row _ _ (List.set _ k (aP (lr l j))) true)=some (Blk.row _ _ _ true);rw[hset]),rfl⟩,trivial⟩⟩;done)
        |(refine⟨(k+1,j,done++[[]]),⟨hlt,hj,by simp[hd],hgo _ hst (by simp only[rC, *, if_true,if_false,aD];done)⟩,by(show z.sets.length-(k+1)<z.sets.length-k;omega),aj.keep ⟨ab,ab,ab,ab,⟨ao (by omega),rfl⟩,trivial⟩ ⟨ab,⟨by(show some (Blk.row _ _ ((done++List.replicate (z.sets.length-k) []).map aP) true)=some (Blk.row _ _ _ true);rw[hsame]),rfl⟩,trivial⟩⟩;done)
        |(refine⟨_,_,ux _ _ hsl (hpl (by assumption)),?_⟩;conv=>whnf)
        |(refine⟨(ik (k:=j) (by assumption) (by omega)).1,aP (lr l j),eE (k:=j) (by assumption) (by omega) (yF hj (by assumption)),?_⟩;conv=>whnf)
        |(refine⟨av k,hrow,?_⟩;conv=>whnf)
        |(refine⟨_,hrk,?_⟩;conv=>whnf)
        |(refine⟨(by kernel_rfl:bf _ _=true),?_⟩;conv=>whnf)
        |(refine ae (λh=>?_) (λh=>?_) <;> (rw[h];conv=>whnf))
        |fail)
   . have hst:jq l s.set.name j=j:=Ls (by simp at h2;omega)
     repeat' (first
         |(refine⟨(k+1,j,done++[lr l j]),⟨hlt,hj,by simp[hd],hgo _ hst (by simp only[rC, *, if_true,if_false,aD];done)⟩,by(show z.sets.length-(k+1)<z.sets.length-k;omega),aj.keep ⟨ab,ab,ab,ab,⟨ao (by omega),rfl⟩,trivial⟩ ⟨ab,⟨by(show some (Blk.row _ _ (List.set _ k (aP (lr l j))) true)=some (Blk.row _ _ _ true);rw[hset]),rfl⟩,trivial⟩⟩;done)
         |(refine⟨(k+1,j,done++[[]]),⟨hlt,hj,by simp[hd],hgo _ hst (by simp only[rC, *, if_true,if_false,aD];done)⟩,by(show z.sets.length-(k+1)<z.sets.length-k;omega),aj.keep ⟨ab,ab,ab,ab,⟨ao (by omega),rfl⟩,trivial⟩ ⟨ab,⟨by(show some (Blk.row _ _ ((done++List.replicate (z.sets.length-k) []).map aP) true)=some (Blk.row _ _ _ true);rw[hsame]),rfl⟩,trivial⟩⟩;done)
         |(refine⟨_,_,ux _ _ hsl (hpl (by assumption)),?_⟩;conv=>whnf)
         |(refine⟨(ik (k:=j) (by assumption) (by omega)).1,aP (lr l j),eE (k:=j) (by assumption) (by omega) (yF hj (by assumption)),?_⟩;conv=>whnf)
         |(refine⟨av k,hrow,?_⟩;conv=>whnf)
         |(refine⟨_,hrk,?_⟩;conv=>whnf)
         |(refine⟨(by kernel_rfl:bf _ _=true),?_⟩;conv=>whnf)
         |(refine ae (λh=>?_) (λh=>?_) <;> (rw[h];conv=>whnf))
         |fail)
 . obtain rfl:k=z.sets.length:=by simp at h1;omega
   refine af rfl ?_;simp only[List.drop_length,bGo,List.append_nil]at hc;show AV.d (.slice 1 ((done++List.replicate (z.sets.length-z.sets.length) []).map aP))=_
   rw[Nat.sub_self,List.replicate_zero,List.append_nil,hc]
end Go.Proofs.YtjapjahfllomkaaGreatDoor
namespace NP
open NQ Go
theorem oW(cs:List Bs):∀(l:List Signed) (k:Nat),(bGo cs k l).length=l.length
 |[],_=>rfl
 |s::t,k=>by simp[bGo,oW cs t]
def rV(t:Int)(b:Bs):Bool:=(b==[])||((t != 2)&&(t != 1))
def rW(z:aF):List Bool:=(z.sets.zip (eB z)).map λp=>rV p.1.set.type p.2
def jr(b:Bool):List D:=[.bool b]
theorem Qc(done:List Bool)(n:Nat)(c:Bool):(done++List.replicate (n+1) false).set done.length c=(done++[c])++List.replicate n false:=by
 rw[List.replicate_succ,List.set_append];simp
def pF(s:Signed)(b:Bs):Bool :=
 ((!(b==[])&&(s.set.type != 1))&& !(!(b==[])&&(s.set.name==b))) ||
 ((!(b==[])&&(s.set.name==b))&&(s.set.type != 1)&&(s.set.type != 2)&&(s.set.type != 6)&&(s.set.type != 8)) ||
 ((s.set.type==6)&& !(!(b==[])&&(s.set.name==b)))
def ov(z:aF)(i:Nat):Bool:=match z.sets[i]?, (eB z)[i]? with|some s,some b=> !pF s b|_,_=>false
def wC(z:aF):Bool:=(List.range z.sets.length).all (ov z)
def pE(apex:Bs)(s:Signed)(o:Bool):Bool:= !fZ s.sigs apex||(!o&&decide ((s.sigs.length:Int)>0))
def ou(z:aF)(i:Nat):Bool:=match z.sets[i]?, (rW z)[i]? with|some s,some o=> !pE z.apex s o|_,_=>false
def wB(z:aF):Bool:=(List.range z.sets.length).all (ou z)
theorem mz{b:Bool}(h:b=true)(h' :b=false):False:=by rw[h]at h';cases h'
end NP
namespace Go.Proofs.YtjapjahfllomkaaGreatDoor
open NQ Go NP Go.RowKit
theorem TD(z:aF)(hn:z.sets.length<=100000)(hv:∀s∈z.sets,au s.set.name=true):NQ.Fn cx 252 [.agg (aW z)] (.d (.slice 1 ((rW z).map jr))) []:=by
 refine aA aO mixed Tryz.func252 (by kernel_rfl) rfl (ah rfl) ?_;conv=>whnf
 (refine⟨_,_,BL z hn hv,?_⟩;conv=>whnf)
 have hb:(eB z).length=z.sets.length:=oW _ _ _;refine⟨by omega,.inl rfl,by omega,by(simp only[ak];omega),by(simp only[ak];omega),?_⟩
 conv=>whnf
 refine ⟨Nat × List Bool, fun x => ⟨[(1, .ptr 1 0), (3, .d (.slice 1 ((eB z).map aP))), (4, .own 12), (5, .d (.int .i64 x.1))],
     [(1,.box ((aW z).map .d)),(12,.row 4 1 ((x.2++List.replicate (z.sets.length-x.1) false).map jr) true)]⟩,
  λx=>x.1<=z.sets.length/\x.2.length=x.1/\x.2++((z.sets.zip (eB z)).drop x.1).map (λp=>rV p.1.set.type p.2)=rW z,λx=>z.sets.length-x.1,
  ⟨(0,[]),⟨by simp,rfl,rfl⟩,aj.keep ⟨ab,ab,ab,ab,trivial⟩ ⟨ab,⟨by(show some (Blk.row _ _ (List.replicate ((z.sets.map az).length:Int).toNat _) true)=some (Blk.row _ _ _ true);simp[jr];done),rfl⟩,trivial⟩⟩,?_⟩
 rintro⟨k,done⟩ ⟨hk,hd,hc⟩;simp only at hk hd hc
 conv=>whnf
 refine ae (λh1=>?_) (λh1=>?_) <;> (rw[h1];conv=>whnf)
 . have hlt:k<z.sets.length:=by simp at h1;omega
   obtain⟨s,hs⟩:∃s,z.sets[k]? =some s:=⟨_,ag hlt⟩
   obtain⟨b,hb'⟩:∃b,(eB z)[k]? =some b:=⟨_,ag (by omega)⟩
   have hzk:(z.sets.zip (eB z))[k]? =some (s,b):=by rw[List.getElem?_zip_eq_some];exact⟨hs,hb'⟩
   rw[drop_cons hzk,List.map_cons]at hc;have hrow:k<((done++List.replicate (z.sets.length-k) false).map jr).length:=by simp;omega
   have hrep:List.replicate (z.sets.length-k) false=List.replicate ((z.sets.length-(k+1))+1) false:=by congr 1;omega
   have hset:∀c',((done++List.replicate (z.sets.length-k) false).map jr).set k (jr c')=((done++[c'])++List.replicate (z.sets.length-(k+1)) false).map jr:=λc' =>by
    rw[hrep, <- Qc done _ c',List.map_set,hd]
   have hrk:((done++List.replicate (z.sets.length-k) false).map jr)[k]? =some (jr false):=by
    rw[aQ,bX (by omega),List.getElem?_replicate,if_pos (by omega)];rfl
   have hgo:∀c',rV s.set.type b=c' ->(done++[c'])++((z.sets.zip (eB z)).drop (k+1)).map (λp=>rV p.1.set.type p.2)=rW z:=λc' e=>by
    rw[<- hc, <- e,List.append_assoc];rfl
   have e0:(⟨#[]⟩:ByteArray).data.toList=[]:=rfl
   repeat' (first
    |(refine⟨(k+1,done++[true]),⟨hlt,by simp[hd],hgo _ (by(try simp only[e0]at *);simp only[rV, *, if_true,if_false,aD];done)⟩,by(show z.sets.length-(k+1)<z.sets.length-k;omega),aj.keep ⟨ab,ab,ab,⟨ao (by omega),rfl⟩,trivial⟩ ⟨ab,⟨by(show some (Blk.row _ _ (List.set _ k (jr true)) true)=some (Blk.row _ _ _ true);rw[hset]),rfl⟩,trivial⟩⟩;done)
    |(refine⟨(k+1,done++[false]),⟨hlt,by simp[hd],hgo _ (by(try simp only[e0]at *);simp only[rV, *, if_true,if_false,aD];done)⟩,by(show z.sets.length-(k+1)<z.sets.length-k;omega),aj.keep ⟨ab,ab,ab,⟨ao (by omega),rfl⟩,trivial⟩ ⟨ab,⟨by(show some (Blk.row _ _ (List.set _ k (jr false)) true)=some (Blk.row _ _ _ true);rw[hset]),rfl⟩,trivial⟩⟩;done)
    |(refine⟨(k+1,done++[s.set.type != 1]),⟨hlt,by simp[hd],hgo _ (by(try simp only[e0]at *);simp only[rV, *, if_true,if_false,aD];done)⟩,by(show z.sets.length-(k+1)<z.sets.length-k;omega),aj.keep ⟨ab,ab,ab,⟨ao (by omega),rfl⟩,trivial⟩ ⟨ab,⟨by(show some (Blk.row _ _ (List.set _ k (jr (s.set.type != 1))) true)=some (Blk.row _ _ _ true);rw[hset]),rfl⟩,trivial⟩⟩;done)
    |(refine⟨(by kernel_rfl:bf _ _=true),?_⟩;conv=>whnf)
    |(refine ae (λh=>?_) (λh=>?_) <;> (rw[h];conv=>whnf))
    |(refine⟨av k,az s,aC hs,?_⟩;conv=>whnf)
    |(refine⟨av k,aP b,aC hb',?_⟩;conv=>whnf)
    |(refine⟨av k,hrow,?_⟩;conv=>whnf)
    |(refine⟨_,hrk,?_⟩;conv=>whnf)
    |fail)
 . obtain rfl:k=z.sets.length:=by simp at h1;omega
   refine af rfl ?_;rw[List.drop_eq_nil_of_le (by simp;omega),List.map_nil,List.append_nil]at hc;show AV.d (.slice 1 ((done++List.replicate (z.sets.length-z.sets.length) false).map jr))=_
   rw[Nat.sub_self,List.replicate_zero,List.append_nil,hc]
theorem RG(z:aF)(hn:z.sets.length<=100000)(hv:∀s∈z.sets,au s.set.name=true):NQ.Fn cx 190 [.agg (aW z)] (.d (.bool (wC z))) []:=by
 refine aA aO mixed Tryz.func190 (by kernel_rfl) rfl (ah rfl) ?_;conv=>whnf
 (refine⟨_,_,BL z hn hv,?_⟩;conv=>whnf)
 have hb:(eB z).length=z.sets.length:=oW _ _ _;have hyes:wC z=(List.range z.sets.length).all (ov z):=rfl;refine⟨Nat,λk=>⟨[(1,.ptr 1 0),(3,.d (.slice 1 ((eB z).map aP))),(4,.d (.int .i64 k))],[(1,.box ((aW z).map .d))]⟩,λk=>k<=z.sets.length/\(List.range k).all (ov z)=true,λk=>z.sets.length-k,⟨0,⟨by omega,rfl⟩,aj.keep ⟨ab,ab,ab,trivial⟩ ⟨ab,trivial⟩⟩,λk ⟨hk,hall⟩=>?_⟩;(conv=>whnf);refine ae (λh1=>?_) (λh1=>?_) <;> (rw[h1];conv=>whnf)
 . have hlt:k<z.sets.length:=by simp at h1;omega
   obtain⟨s,hs⟩:∃s,z.sets[k]? =some s:=⟨_,ag hlt⟩
   obtain⟨b,hb'⟩:∃b,(eB z)[k]? =some b:=⟨_,ag (by omega)⟩
   have hat:ov z k= !pF s b:=by simp only[ov,hs,hb']
   have hno:ov z k=false->wC z=false:=λhh=>by rw[hyes,bI hlt hh]
   clear hb;refine⟨av k,az s,aC hs,?_⟩
   conv=>whnf
   repeat' (first
    |exact(mz (b:=s.set.type != 1) (by assumption) (by assumption)).elim
    |exact(mz (b:= !(b==[])) (by assumption) (by assumption)).elim
    |exact(mz (b:=s.set.name==b) (by assumption) (by assumption)).elim
    |exact(Cj (b:=s.set.name==b) (by assumption) (by assumption)).elim
    |exact(mz (b:= !(s.set.name==b)) (by assumption) (by assumption)).elim
    |(refine⟨(by kernel_rfl:bf _ _=true),?_⟩;conv=>whnf)
    |(refine af rfl ?_;show AV.d (D.bool false)=_;(try simp only[ak]at *);rw[hno (by rw[hat];simp only[pF, *, if_true,if_false,aD])];done)
    |(refine⟨k+1,⟨by omega,?_⟩,by(show z.sets.length-(k+1)<z.sets.length-k;omega),aj.keep ⟨ab,ab,⟨ao (by omega),rfl⟩,trivial⟩ ⟨ab,trivial⟩⟩;rw[bR,hall,hat];((try simp only[ak]at *);simp only[pF, *, if_true,if_false,aD];done))
    |(refine ae (λh=>?_) (λh=>?_) <;> (rw[h];conv=>whnf))
    |(refine⟨av k,aP b,aC hb',?_⟩;conv=>whnf)
    |fail)
 . (refine af rfl ?_;obtain rfl:k=z.sets.length:=(by simp at h1;omega);show AV.d (D.bool true)=_;rw[hyes,hall])
theorem RD(z:aF)(hn:z.sets.length<=100000)(hv:∀s∈z.sets,au s.set.name=true):NQ.Fn cx 191 [.agg (aW z)] (.d (.bool (wB z))) []:=by
 refine aA aO mixed Tryz.func191 (by kernel_rfl) rfl (ah rfl) ?_;conv=>whnf
 (refine⟨_,_,TD z hn hv,?_⟩;conv=>whnf)
 have hb:(rW z).length=z.sets.length:=by have:=oW (bG z) z.sets 0;unfold rW eB;simp;omega
 have hyes:wB z=(List.range z.sets.length).all (ou z):=rfl;refine⟨Nat,λk=>⟨[(1,.ptr 1 0),(3,.d (.slice 1 ((rW z).map jr))),(4,.d (.int .i64 k))],[(1,.box ((aW z).map .d))]⟩,λk=>k<=z.sets.length/\(List.range k).all (ou z)=true,λk=>z.sets.length-k,⟨0,⟨by omega,rfl⟩,aj.keep ⟨ab,ab,ab,trivial⟩ ⟨ab,trivial⟩⟩,λk ⟨hk,hall⟩=>?_⟩;(conv=>whnf);refine ae (λh1=>?_) (λh1=>?_) <;> (rw[h1];conv=>whnf)
 . have hlt:k<z.sets.length:=by simp at h1;omega
   obtain⟨s,hs⟩:∃s,z.sets[k]? =some s:=⟨_,ag hlt⟩
   obtain⟨o,ho⟩:∃o,(rW z)[k]? =some o:=⟨_,ag (by omega)⟩
   have hat:ou z k= !pE z.apex s o:=by simp only[ou,hs,ho]
   have hno:ou z k=false->wB z=false:=λhh=>by rw[hyes,bI hlt hh]
   clear hb
   repeat' (first
    |(refine⟨(by kernel_rfl:bf _ _=true),?_⟩;conv=>whnf)
    |(refine af rfl ?_;show AV.d (D.bool false)=_;(try simp only[ak]at *);rw[hno (by rw[hat];simp only[pE, *, if_true,if_false,aD])];done)
    |(refine⟨k+1,⟨by omega,?_⟩,by(show z.sets.length-(k+1)<z.sets.length-k;omega),aj.keep ⟨ab,ab,⟨ao (by omega),rfl⟩,trivial⟩ ⟨ab,trivial⟩⟩;rw[bR,hall,hat];((try simp only[ak]at *);simp only[pE, *, if_true,if_false,aD];done))
    |(refine⟨_,_,Pr _ _,?_⟩;conv=>whnf)
    |(refine ae (λh=>?_) (λh=>?_) <;> (rw[h];conv=>whnf))
    |(refine⟨av k,az s,aC hs,?_⟩;conv=>whnf)
    |(refine⟨av k,jr o,aC ho,?_⟩;conv=>whnf)
    |fail)
 . (refine af rfl ?_;obtain rfl:k=z.sets.length:=(by simp at h1;omega);show AV.d (D.bool true)=_;rw[hyes,hall])
end Go.Proofs.YtjapjahfllomkaaGreatDoor
namespace NP
open NQ Go
def mf(al:Bs)(s:Signed):Bs:=if (s.set.type==3)=true then s.set.name else al
def sL(k:Nat)(s p:Signed):Bs:=if (decide ((k:Int)>0)&&(p.set.name==s.set.name))=true then s.set.name else[]
def wP(al last:Bs)(t:Int):Bool:=(!(last==[])&&(t==3))||((!(last==[])&&(last==al))&&(t != 3)&&(t != 8))
def yR(z:aF):Bs->Nat->List Signed->Bool
 |_,_,[]=>true
 |al,k,s::t=> !wP (mf al s) (sL k s ((z.sets[k-1]?).getD s)) s.set.type&&yR z (mf al s) (k+1) t
def sM(z:aF):Bool:=yR z [] 0 z.sets
def sO(z:aF):Bool:=ordered z&&iG (λt=>cP z.sets ⟨z.apex,t⟩) z&&sM z&&wC z&&wB z
end NP
namespace Go.Proofs.YtjapjahfllomkaaGreatDoor
open NQ Go NP Go.RowKit
theorem Qu(z:aF)(hn:z.sets.length<=100000):NQ.Fn cx 189 [.agg (aW z)] (.d (.bool (sM z))) []:=by
 refine aA aO mixed Tryz.func189 (by kernel_rfl) rfl (ah rfl) ?_;conv=>whnf
 refine⟨Nat×Bs,λx=>⟨[(1,.ptr 1 0),(3,.d (.str x.2)),(4,.d (.int .i64 x.1))],[(1,.box ((aW z).map .d))]⟩,
  λx=>x.1<=z.sets.length/\yR z x.2 x.1 (z.sets.drop x.1)=sM z,λx=>z.sets.length-x.1,
  ⟨(0,[]),⟨by simp,rfl⟩,aj.keep ⟨ab,ab,ab,trivial⟩ ⟨ab,trivial⟩⟩,?_⟩
 rintro⟨k,al⟩ ⟨hk,hc⟩;simp only at hk hc
 conv=>whnf
 refine ae (λh1=>?_) (λh1=>?_) <;> (rw[h1];conv=>whnf)
 . have hlt:k<z.sets.length:=by simp at h1;omega
   obtain⟨s,hs⟩:∃s,z.sets[k]? =some s:=⟨_,ag hlt⟩
   obtain⟨p,hp⟩:∃p,z.sets[k-1]? =some p:=⟨_,ag (by omega)⟩
   rw[drop_cons hs,yR,hp,Option.getD_some]at hc;have e0:(⟨#[]⟩:ByteArray).data.toList=[]:=rfl;have e1:(([]:Bs)==[])=true:=rfl;clear h1
   repeat' (first
    |exact(mz (b:=s.set.type==3) (by assumption) (by assumption)).elim
    |exact(mz (b:= !(s.set.name==[])) (by assumption) (by assumption)).elim
    |(refine⟨(by kernel_rfl:bf _ _=true),?_⟩;conv=>whnf)
    |(refine af rfl ?_;show AV.d (D.bool false)=_;(try simp only[e0]at *);simp only[wP,mf,sL, *, if_true,if_false,aD]at hc;rw[<- hc];done)
    |(refine⟨(k+1,al),⟨hlt,(by(try simp only[e0]at *);simp only[wP,mf,sL, *, if_true,if_false,aD]at hc;exact hc)⟩,by(show z.sets.length-(k+1)<z.sets.length-k;omega),aj.keep ⟨ab,ab,⟨ao (by omega),rfl⟩,trivial⟩ ⟨ab,trivial⟩⟩;done)
    |(refine⟨(k+1,s.set.name),⟨hlt,(by(try simp only[e0]at *);simp only[wP,mf,sL, *, if_true,if_false,aD]at hc;exact hc)⟩,by(show z.sets.length-(k+1)<z.sets.length-k;omega),aj.keep ⟨ab,ab,⟨ao (by omega),rfl⟩,trivial⟩ ⟨ab,trivial⟩⟩;done)
    |(refine ae (λh=>?_) (λh=>?_) <;> (rw[h];conv=>whnf))
    |(refine⟨(ik (by assumption) (by omega)).1,az p,eE (by assumption) (by omega) hp,?_⟩;conv=>whnf)
    |(refine⟨av k,az s,aC hs,?_⟩;conv=>whnf)
    |fail)
 . obtain rfl:k=z.sets.length:=by simp at h1;omega
   refine af rfl ?_;rw[List.drop_length,yR]at hc;rw[<- hc];rfl
theorem NG(z:aF)(hn:z.sets.length<=100000):NQ.Fn cx 115 [.agg (aW z)] (.d (.bool (sO z))) []:=by
 refine aA aO mixed Tryz.func115 (by kernel_rfl) rfl (ah rfl) ?_;conv=>whnf
 (refine⟨_,_,TA z,?_⟩;conv=>whnf)
 (refine ae (λh=>?_) (λh=>?_) <;> (rw[h];conv=>whnf))
 . have ho:=Ordered.of h
   repeat' (first|(refine⟨_,_,TM z hn,?_⟩;conv=>whnf)|(refine⟨_,_,Qu z hn,?_⟩;conv=>whnf)|(refine⟨_,_,RG z hn ho.name,?_⟩;conv=>whnf)|(refine⟨_,_,RD z hn ho.name,?_⟩;conv=>whnf)|(refine⟨(by kernel_rfl:bf _ _=true),?_⟩;conv=>whnf)|(refine ae (λh=>?_) (λh=>?_) <;> (rw[h];conv=>whnf))|fail)
   all_goals first
    |(refine af rfl ?_;show AV.d (D.bool false)=_;(try simp only[ak]at *);simp only[sO, *, if_true,if_false,aD];done)
    |(refine af rfl ?_;show AV.d (D.bool _)=_;simp only[sO, *, if_true,if_false,aD];done)
    |fail
 . (refine af rfl ?_;show AV.d (D.bool false)=_;(try simp only[ak]at *);simp only[sO, *, if_true,if_false,aD];done)
end Go.Proofs.YtjapjahfllomkaaGreatDoor
namespace NP
open NQ Go
theorem Pk(s:Signed)(b:Bs):pF s b=kv s b:=by
 unfold pF kv;by_cases hb:b=[]
 . subst hb;simp
 . have h1:(b==[])=false:=by simpa using hb
   by_cases hn:s.set.name=b
   . subst hn;simp only[h1,beq_self_eq_true,oK,gj,dC,rm,gV,dK,jl,dM,if_false,if_true];rw[Bool.eq_iff_iff];simp;exact⟨λ⟨⟨⟨a,b⟩,c⟩,d⟩=>⟨⟨⟨b,c⟩,d⟩,a⟩,λ⟨⟨⟨b,c⟩,d⟩,a⟩=>⟨⟨⟨a,b⟩,c⟩,d⟩⟩
   . have h2:(s.set.name==b)=false:=by simpa using hn
     have h3:(b==s.set.name)=false:=by simpa using λe=>hn e.symm
     simp only[h1,h2,h3,oK,gj,dC,gV,gW,jl,dM,if_false];rw[Bool.eq_iff_iff];simp;omega
theorem Pj{z:aF}(h:eB z=cV z):wC z=nP z (cV z):=by
 unfold wC nP;have:ov z=cutAt z (cV z):=funext λi=>by
  unfold ov cutAt;rw[h];cases z.sets[i]? with
  |none=>rfl
  |some s =>
   cases (cV z)[i]? with
   |none=>rfl
   |some b=>exact congrArg Bool.not (Pk s b)
 rw[this]
theorem Pc(apex:Bs)(s:Signed)(b:Bs):(!pE apex s (rV s.set.type b))=(!mW s b&&fZ s.sigs apex):=by
 unfold pE mW rV;cases fZ s.sigs apex <;> cases (b==[]) <;> cases decide ((s.sigs.length:Int)>0) <;> cases h2:(s.set.type==2) <;> cases h1:(s.set.type==1) <;> simp[bne,h1,h2]
theorem CZ(n:Nat)(f g:Nat->Bool):(List.range n).all (λi=>f i&&g i)=((List.range n).all f&&(List.range n).all g):=by
 rw[Bool.eq_iff_iff];simp only[aB,ax];exact⟨λh=>⟨λi hi=>(h i hi).1,λi hi=>(h i hi).2⟩,λh i hi=>⟨h.1 i hi,h.2 i hi⟩⟩
theorem Pb{z:aF}(h:eB z=cV z):wB z=(pr z (cV z)&&nT z):=by
 unfold wB pr nT;rw[<- CZ];have hb:(cV z).length=z.sets.length:=uH _ _ _;rw[Bool.eq_iff_iff,ax,ax];have heq:∀i,i<z.sets.length->ou z i=(pq z (cV z) i&&lS z i):=by
  intro i hi;obtain⟨s,hs⟩:∃s,z.sets[i]? =some s:=⟨_,ag hi⟩
  obtain⟨b,hb'⟩:∃b,(cV z)[i]? =some b:=⟨_,ag (by omega)⟩
  have ho:(rW z)[i]? =some (rV s.set.type b):=by
   unfold rW;rw[aQ,h,(List.getElem?_zip_eq_some.2 ⟨hs,hb'⟩:(z.sets.zip (cV z))[i]? =some (s,b))];rfl
  simp only[ou,pq,lS,hs,hb',ho];exact Pc _ _ _
 exact⟨λk i hi=>by rw[<- heq i (List.mem_range.1 hi)];exact k i hi,λk i hi=>by rw[heq i (List.mem_range.1 hi)];exact k i hi⟩
theorem qw{a z:Bs}(h:aH a z=true):aI z a<=0:=by
 rw[dE]at h;obtain⟨t,ht⟩:=h;unfold aI;rw[<- ht];exact Gr bP _ _
theorem qx{a b c z:Bs}(ha:aH a z=true)(hc:aH c z=true)(h1:aI a b<=0)(h2:aI b c<=0):aH b z=true:=by
 rw[dE]at ha hc ⊢;obtain⟨s,hs⟩:=ha;obtain⟨t,ht⟩:=hc;unfold aI at h1 h2;rw[<- hs]at h1;rw[<- ht]at h2;exact qE bP _ _ _ _ h1 h2
theorem fW(a:Bs):aH a a=true:=by rw[dE];exact List.prefix_refl _
theorem LJ{a b:Bs}(h:aI a b<0):aI a b= -1:=by rcases bp.range a b with e|e|e <;> omega
theorem OA{a b c:Bs}(h:aI a b<0)(k:aI b c<0):aI a c<0:=by
 have:=bp.lt _ _ _ (LJ h) (LJ k);omega
theorem Ib{a b:Bs}(h:aI a b<0):¬aI b a<=0:=by have:=bp.anti a b;omega
abbrev Asc(l:List Bs):Prop:=l.Pairwise λa b=>aI a b<0
theorem Ea(apex:Bs):∀(l:List Signed),ee l->Asc (cv apex l)
 |[],_=>List.Pairwise.nil
 |x::t,h=>by
  have ih:=Ea apex t h.tail;unfold cv;split
  . rename_i hx;refine List.Pairwise.cons ?_ ih;intro c hc;have hm:∀(l:List Signed) c,c∈cv apex l-> ∃s∈l,s.set.name=c/\s.set.type=2:=by
     intro l;induction l with
     |nil=>intro c h;cases h
     |cons s l ih =>
      intro c h;unfold cv at h;split at h
      . rename_i hs;rcases List.mem_cons.1 h with rfl|h
        . refine⟨s,List.mem_cons_self .., rfl,?_⟩;unfold dj at hs;simp at hs;exact hs.1
        . obtain⟨y,hy,e⟩:=ih c h;exact⟨y,aM _ hy,e⟩
      . obtain⟨y,hy,e⟩:=ih c h;exact⟨y,aM _ hy,e⟩
    obtain⟨s,hs,e1,e2⟩:=hm t c hc;have hlt:=mv h s hs;have hx2:x.set.type=2:=by unfold dj at hx;simp at hx;exact hx.1
    unfold Signed.place at hlt;rw[e1,e2,hx2]at hlt;unfold cpl lex at hlt;split at hlt
    . have:cZ 2 2=0:=rfl;simp only at hlt;rw[this]at hlt;omega
    . exact hlt
  . exact ih
def xP(l:List Bs):Prop:= ∀a∈l,∀b∈l,aH a b=true->a=b
theorem DJ{l:List Bs}(h:Asc l)(hne:l.length≠0):∀a∈l,aI a (nU l)<=0:=by
 intro a ha;obtain⟨i,hi,rfl⟩:=List.getElem_of_mem ha;rw[nU,ag (by omega),Option.getD_some];by_cases e:i=l.length-1
 . subst e;rw[(bp.zero _ _).2 rfl];exact Int.le_refl _
 . have:=List.pairwise_iff_getElem.1 h i (l.length-1) hi (by omega) (by omega);omega
theorem vr:∀(rest acc:List Bs),Asc (acc++rest)->xP acc->Asc (kD acc rest)/\xP (kD acc rest)/\(∀a∈acc,a∈kD acc rest)/\(∀c∈rest,∃h∈kD acc rest,aH c h=true)
 |[],acc,h,ha=>⟨by rw[kD];simpa using h,ha,λa h=>h,λc h=>by cases h⟩
 |c::t,acc,h,ha=>by
  have hacc:Asc acc:=(List.pairwise_append.1 h).1;have hlt:∀a∈acc,aI a c<0:=λa hm=>(List.pairwise_append.1 h).2.2 a hm c (List.mem_cons_self ..)
  rw[kD];by_cases hn:qK acc c=true
  . rw[if_pos hn];have hno:∀a∈acc,aH c a=false:=by
     intro a hm;cases hu:aH c a with
     |false=>rfl
     |true =>
      have hne:acc.length≠0:=by cases acc with|nil=>cases hm|cons=>simp
      have h1:=DJ hacc hne a hm;have h2:=hlt _ (ml hne);have h3:=qx (fW a) hu h1 (by omega);have h4:=ha _ (ml hne) _ hm h3;unfold qK at hn;rw[h4,hu]at hn;simp at hn;exact absurd (by simpa using hn) hne
    have hanti:xP (acc++[c]):=by
     intro a hma b hmb hu;rcases List.mem_append.1 hma with qa|qa <;> rcases List.mem_append.1 hmb with qb|qb
     . exact ha a qa b qb hu
     . simp at qb;subst qb;exact absurd (qw hu) (Ib (hlt a qa))
     . simp at qa;subst qa;rw[hno b qb]at hu;cases hu
     . simp at qa qb;rw[qa,qb]
    obtain⟨r1,r2,r3,r4⟩:=vr t (acc++[c]) (by simpa using h) hanti;refine⟨r1,r2,λa hm=>r3 a (List.mem_append_left _ hm),λx hx=>?_⟩;rcases List.mem_cons.1 hx with rfl|hx
    . exact⟨x,r3 x (by simp),fW x⟩
    . exact r4 x hx
  . rw[if_neg hn];have hne:acc.length≠0:=λe=>hn (by unfold qK;rw[e];rfl)
    have hu:aH c (nU acc)=true:=by
     unfold qK at hn;simp at hn;exact hn.2
    have h' :Asc (acc++t):=by
     have h:=List.pairwise_append.1 h;refine List.pairwise_append.2 ?_;exact⟨h.1,(List.pairwise_cons.1 h.2.1).2,λa hm b hb=>h.2.2 a hm b (aM _ hb)⟩
    obtain⟨r1,r2,r3,r4⟩:=vr t acc h' ha;refine⟨r1,r2,r3,λx hx=>?_⟩;rcases List.mem_cons.1 hx with rfl|hx
    . exact⟨_,r3 _ (ml hne),hu⟩
    . exact r4 x hx
def spec(H:List Bs)(n:Bs):Bs:=(H.find? λh=>aH n h).getD []
theorem my{H:List Bs}(hA:Asc H)(ha:xP H){n h:Bs}(hm:h∈H)(hu:aH n h=true):spec H n=h:=by
 unfold spec;cases hf:H.find? (λh=>aH n h)with
 |none=>have:=List.find?_eq_none.1 hf h hm;rw[hu]at this;exact absurd rfl this
 |some g =>
  have hg:=List.find?_some hf;have hgm:=List.mem_of_find?_eq_some hf;show g=h
  have h1:=qw hu;have h2:=qw hg;rcases bp.range g h with e|e|e
  . exact(ha h hm g hgm (qx (fW g) hg (by omega) h1)).symm
  . exact(bp.zero _ _).1 e
  . have:=bp.anti g h;exact ha g hgm h hm (qx (fW h) hu (by omega) h2)
theorem rf{H:List Bs}{n:Bs}(h:∀x∈H,aH n x=false):spec H n=[]:=by
 unfold spec;rw[List.find?_eq_none.2 λx hx=>by rw[h x hx];simp];rfl
def cnt(H:List Bs)(n:Bs):Nat:=(H.takeWhile λc=>decide (aI c n<=0)).length
theorem Lr{H:List Bs}{n:Bs}{k:Nat}(hk:k<=H.length)(hpre:∀c∈H.take k,aI c n<=0):jq H n k=cnt H n:=by
 unfold jq cnt
 conv=>rhs;rw[<- List.take_append_drop k H]
 rw[List.takeWhile_append_of_pos (by intro a ha;simpa using hpre a ha),List.length_append,List.length_take];omega
theorem LN(H:List Bs)(n:Bs):cnt H n<=H.length:=by
 unfold cnt;exact(List.takeWhile_sublist _).length_le
theorem NB{α:Type}{p:α->Bool}:∀{l:List α} {x:α},x∈l.takeWhile p->p x=true
 |[],x,h=>by cases h
 |y::t,x,h=>by
  rw[List.takeWhile_cons]at h;split at h
  . rcases List.mem_cons.1 h with rfl|h
    . assumption
    . exact NB h
  . cases h
theorem DU(H:List Bs)(n:Bs):∀c∈H.take (cnt H n),aI c n<=0:=by
 intro c hc;have:H.take (cnt H n)=H.takeWhile λc=>decide (aI c n<=0):=by
  unfold cnt;exact(List.prefix_iff_eq_take.1 (List.takeWhile_prefix _)).symm
 rw[this]at hc;have:=NB hc;simpa using this
theorem Qs(H:List Bs)(n:Bs):H.take (cnt H n)=H.takeWhile λc=>decide (aI c n<=0):=by
 unfold cnt;exact(List.prefix_iff_eq_take.1 (List.takeWhile_prefix _)).symm
theorem wY{a b c:Bs}(h:aI a b<0)(k:aI b c<=0):aI a c<=0:=by
 rcases bp.range b c with e|e|e
 . have:=OA h (by omega:aI b c<0);omega
 . rw[<- (bp.zero _ _).1 e];omega
 . omega
theorem Oz{a b c:Bs}(h:aI a b<=0)(k:aI b c<=0):aI a c<=0:=by
 rcases bp.range a b with e|e|e
 . exact wY (by omega) k
 . rw[(bp.zero _ _).1 e];exact k
 . omega
theorem Iw{n h:Bs}(hle:aI h n<=0):∀{H:List Bs},Asc H->h∈H->h∈H.takeWhile λc=>decide (aI c n<=0)
 |[],_,hm=>by cases hm
 |x::t,hA,hm=>by
  rcases List.mem_cons.1 hm with rfl|hm
  . rw[List.takeWhile_cons,if_pos (by simpa using hle)];exact List.mem_cons_self ..
  . have hx:=(List.pairwise_cons.1 hA).1 h hm;rw[List.takeWhile_cons,if_pos (by simpa using wY hx hle)];exact aM _ (Iw hle (List.pairwise_cons.1 hA).2 hm)
theorem LF{H:List Bs}(hA:Asc H)(ha:xP H)(n:Bs):rC H (cnt H n) n=spec H n:=by
 have hpv:cnt H n≠0->lr H (cnt H n)=nU (H.take (cnt H n))/\(H.take (cnt H n)).length≠0:=λh0=>by
  have hl:=LN H n;have e:(H.take (cnt H n)).length=cnt H n:=by rw[List.length_take];omega
  refine⟨?_,by omega⟩;unfold lr nU;rw[e,List.getElem?_take,if_pos (by omega)]
 by_cases hex:∃h∈H,aH n h=true
 . obtain⟨h,hm,hu⟩:=hex;have hmem:=Iw (qw hu) hA hm;rw[<- Qs]at hmem;have h0:cnt H n≠0:=λe=>by rw[e]at hmem;cases hmem
   obtain⟨e1,e2⟩:=hpv h0;have hAt:Asc (H.take (cnt H n)):=hA.sublist (List.take_sublist _ _);have h1:=DJ hAt e2 h hmem;have hgm:=ml e2;have h2:=DU H n _ hgm;have h3:=ha _ (List.mem_of_mem_take hgm) _ hm (qx (fW h) hu h1 h2);have hpos:decide (((cnt H n:Nat):Int)>0)=true:=by simp;omega
   rw[my hA ha hm hu,rC,e1,h3,hu,hpos];rfl
 . have hno:∀x∈H,aH n x=false:=λx hx=>by
    cases hu:aH n x with
    |false=>rfl
    |true=>exact absurd ⟨x,hx,hu⟩ hex
   rw[rf hno];by_cases h0:cnt H n=0
   . rw[rC,h0];rfl
   . obtain⟨e1,e2⟩:=hpv h0;rw[rC,e1,hno _ (List.mem_of_mem_take (ml e2)),gV];rfl
theorem xy{l:List Signed}{x:Signed}(h:ee (x::l)):∀s∈l,aI x.set.name s.set.name<=0:=λs hs=>by
 have hlt:=mv h s hs;unfold cpl lex Signed.place at hlt;simp only at hlt;split at hlt
 . omega
 . omega
theorem DN{H:List Bs}(hA:Asc H)(ha:xP H):∀(l:List Signed) (k:Nat),ee l->k<=H.length->(∀s∈l,∀c∈H.take k,aI c s.set.name<=0)->bGo H k l=l.map λs=>spec H s.set.name
 |[],_,_,_,_=>rfl
 |s::t,k,hr,hk,hp=>by
  have e:=Lr hk (hp s (List.mem_cons_self ..));rw[bGo,e,LF hA ha,List.map_cons]
  congr 1
  refine DN hA ha t _ hr.tail (LN _ _) λx hx c hc=>?_
  exact Oz (DU _ _ c hc) (xy hr x hx)
theorem lh{z:aF}(h:Ordered z):Asc (bG z)/\xP (bG z)/\ ∀c∈cv z.apex z.sets,∃g∈bG z,aH c g=true:=by
 obtain⟨h1,h2,_,h4⟩:=vr (cv z.apex z.sets) [] (by simpa using Ea z.apex z.sets h.rising) (λa ha=>by cases ha);exact⟨h1,h2,h4⟩
theorem uF{z:aF}(h:Ordered z):eB z=z.sets.map λs=>spec (bG z) s.set.name:=by
 obtain⟨h1,h2,_⟩:=lh h;exact DN h1 h2 z.sets 0 h.rising (by omega) λs _ c hc=>by cases hc
theorem qV:∀{l:List Signed},ee l->l.Pairwise λa b=>aI a.set.name b.set.name<=0
 |[],_=>List.Pairwise.nil
 |x::t,h=>List.Pairwise.cons (xy h) (qV h.tail)
theorem yg(apex n:Bs):∀(l:List Signed),dN apex l n=true ↔ n∈cv apex l
 |[]=>by simp[dN,cv]
 |s::t=>by
  have ih:=yg apex n t;unfold dN at ih ⊢;unfold cv;rw[List.any_cons,Bool.or_eq_true,ih];by_cases h:dj apex s=true
  . rw[if_pos h,h,dC,List.mem_cons,beq_iff_eq];exact⟨λk=>k.imp (λe=>e.symm) id,λk=>k.imp (λe=>e.symm) id⟩
  . have h' :dj apex s=false:=by simpa using h
    rw[if_neg h,h'];simp
theorem Qj(H:List Bs)(n:Bs):spec H n=[]\/spec H n∈H:=by
 unfold spec;cases hf:H.find? (λh=>aH n h)with
 |none=>exact .inl rfl
 |some g=>exact .inr (List.mem_of_find?_eq_some hf)
theorem pU{z:aF}{h:Bs}(hm:h∈bG z):h∈cv z.apex z.sets:=by
 rcases yr _ _ _ hm with q|q
 . cases q
 . exact q
theorem pc{z:aF}(ho:Ordered z){h:Bs}(hm:h∈bG z):au h=true:=by
 obtain⟨s,hs,e⟩:=mj _ _ _ (pU hm);rw[<- e];exact ho.name s hs
theorem Ns{z:aF}(ho:Ordered z){pre t:List Signed}{s:Signed}{c:Bs}(hz:pre++s::t=z.sets)
 (hc:(pre=[]/\c=[])\/ ∃p y,pre=p++[y]/\c=spec (bG z) y.set.name):jS (dN z.apex z.sets) c s.set.name=spec (bG z) s.set.name:=by
 obtain⟨hA,ha,hcov⟩:=lh ho;have hsm:s∈z.sets:=by rw[<- hz];simp
 have vs:=ho.name s hsm;have hcH:c=[]\/c∈bG z:=by
  rcases hc with ⟨_,e⟩|⟨p,y,_,e⟩
  . exact .inl e
  . rw[e];exact Qj _ _
 have hu:∀h∈bG z,(bz s.set.name h).1=aH s.set.name h:=λh hm=>by
  unfold bz;rw[if_pos ⟨vs,pc ho hm⟩]
 have hne:∀h∈bG z,(h==[])=false:=λh hm=>by
  have:=pc ho hm;cases h with
  |nil=>exact absurd this (by decide)
  |cons=>rfl
 have hpw:=qV ho.rising;rw[<- hz]at hpw;obtain⟨q1,q2,q3⟩:=List.pairwise_append.1 hpw;by_cases hex:∃h∈bG z,aH s.set.name h=true
 . obtain⟨h,hm,hun⟩:=hex;rw[my hA ha hm hun];by_cases hch:c=h
   . subst hch;unfold jS;simp only[hne c hm,hu c hm,hun,rm,gV,gW,dM,if_false]
   . have hnh:s.set.name=h:=by
      refine Classical.byContradiction λhnn=>hch ?_
      have hle:=qw hun;have hlt:aI h s.set.name<0:=by
       rcases bp.range h s.set.name with e|e|e
       . omega
       . exact absurd ((bp.zero _ _).1 e).symm hnn
       . omega
      obtain⟨x,hx,ex⟩:=mj _ _ _ (pU hm);rw[<- hz]at hx;have hxp:x∈pre:=by
       rcases List.mem_append.1 hx with k|k
       . exact k
       . rcases List.mem_cons.1 k with rfl|k
         . exact absurd ex hnn
         . have:=(List.pairwise_cons.1 q2).1 x k;rw[ex]at this;exact absurd this (Ib hlt)
      rcases hc with ⟨e,_⟩|⟨p,y,e,ec⟩
      . rw[e]at hxp;cases hxp
      . have hys:=q3 y (by rw[e];simp) s (List.mem_cons_self ..);have hxy:aI x.set.name y.set.name<=0:=by
         rw[e]at hxp q1;rcases List.mem_append.1 hxp with k|k
         . exact(List.pairwise_append.1 q1).2.2 x k y (by simp)
         . simp at k;subst k;rw[(bp.zero _ _).2 rfl];exact Int.le_refl _
        rw[ex]at hxy;rw[ec,my hA ha hm (qx (fW h) hun hxy hys)]
     have hcut:dN z.apex z.sets s.set.name=true:=(yg _ _ _).2 (by rw[hnh];exact pU hm);have hc' :(if (!(c==[])&& !(bz s.set.name c).1)=true then[]else c)=[]:=by
      rcases hcH with e|e
      . subst e;rfl
      . have:aH s.set.name c=false:=by
         cases hk:aH s.set.name c with
         |false=>rfl
         |true=>exact absurd (ha h hm c e (by rw[<- hnh];exact hk)).symm hch
        rw[hne c e,hu c e,this];rfl
     unfold jS;simp only[hc',hcut];exact hnh
 . have hno:∀x∈bG z,aH s.set.name x=false:=λx hx=>by
    cases hk:aH s.set.name x with
    |false=>rfl
    |true=>exact absurd ⟨x,hx,hk⟩ hex
   rw[rf hno];have hcut:dN z.apex z.sets s.set.name=false:=by
    cases hk:dN z.apex z.sets s.set.name with
    |false=>rfl
    |true =>
     obtain⟨g,hg,hgu⟩:=hcov _ ((yg _ _ _).1 hk);rw[hno g hg]at hgu;cases hgu
   have hc' :(if (!(c==[])&& !(bz s.set.name c).1)=true then[]else c)=[]:=by
    rcases hcH with e|e
    . subst e;rfl
    . rw[hne c e,hu c e,hno c e];rfl
   unfold jS;simp only[hc',hcut];rfl
theorem HQ{z:aF}(ho:Ordered z):∀(l pre:List Signed) (c:Bs),pre++l=z.sets->((pre=[]/\c=[])\/ ∃p y,pre=p++[y]/\c=spec (bG z) y.set.name) ->
 bh (dN z.apex z.sets) c l=l.map λs=>spec (bG z) s.set.name
 |[],_,_,_,_=>rfl
 |s::t,pre,c,hz,hc=>by
  rw[bh,Ns ho hz hc,List.map_cons]
  congr 1
  exact HQ ho t (pre++[s]) _ (by rw[<- hz];simp) (.inr ⟨pre,s,rfl,rfl⟩)
theorem uG{z:aF}(ho:Ordered z):eB z=cV z:=by
 rw[uF ho];exact(HQ ho z.sets [] [] rfl (.inl ⟨rfl,rfl⟩)).symm
def jV(l:List Signed):Nat->Bs
 |0=>[]
 |i+1=>match l[i]? with|some s=>mf (jV l i) s|none=>jV l i
def BB(z:aF)(i:Nat):Bool:=match z.sets[i]? with|some s=> !wP (mf (jV z.sets i) s) (sL i s ((z.sets[i-1]?).getD s)) s.set.type|none=>true
theorem FQ(z:aF):∀(l:List Signed) (k:Nat),z.sets.drop k=l->yR z (jV z.sets k) k l=(List.range l.length).all λi=>BB z (k+i)
 |[],_,_=>rfl
 |s::t,k,h=>by
  have hs:z.sets[k]? =some s:=by
   have:=congrArg (λl=>l[0]?) h;simpa using this
  have ht:z.sets.drop (k+1)=t:=by
   have:=drop_cons hs;rw[h]at this;exact(List.cons.inj this).2.symm
  have e:jV z.sets (k+1)=mf (jV z.sets k) s:=by simp only[jV,hs]
  have ih:=FQ z t (k+1) ht;rw[e]at ih;rw[yR,ih,List.length_cons,List.range_succ_eq_map,List.all_cons,List.all_map]
  congr 1
  . simp only[Nat.add_zero,BB,hs]
  . congr 1;funext i;simp only[Function.comp];congr 1;omega
theorem Ny(z:aF):sM z=(List.range z.sets.length).all (BB z):=by
 have:=FQ z z.sets 0 (by simp);rw[sM];simpa [jV] using this
theorem BI(l:List Signed):∀i,i<=l.length->(jV l i=[]/\ ∀j s,j<i->l[j]? =some s->s.set.type≠3)\/(∃j s,j<i/\l[j]? =some s/\s.set.type=3/\jV l i=s.set.name/\ ∀j' s',j<j' ->j' <i->l[j']? =some s' ->s'.set.type≠3)
 |0,_=> .inl ⟨rfl,λj s h=>by omega⟩
 |i+1,hi=>by
  obtain⟨s,hs⟩:∃s,l[i]? =some s:=⟨_,ag (by omega)⟩
  have e:jV l (i+1)=mf (jV l i) s:=by simp only[jV,hs]
  by_cases h3:s.set.type=3
  . right
    refine⟨i,s,by omega,hs,h3,by rw[e,mf,if_pos (by simpa using h3)],λj' s' h h' =>by omega⟩
  . have e' :jV l (i+1)=jV l i:=by rw[e,mf,if_neg (by simpa using h3)]
    rw[e'];rcases BI l i (by omega)with ⟨k1,k2⟩|⟨j,x,k1,k2,k3,k4,k5⟩
    . refine .inl ⟨k1,λj y hj hy=>?_⟩;by_cases ej:j=i
      . subst ej;rw[hs]at hy;cases hy;exact h3
      . exact k2 j y (by omega) hy
    . refine .inr ⟨j,x,by omega,k2,k3,k4,λj' y h h' hy=>?_⟩;by_cases ej:j' =i
      . subst ej;rw[hs]at hy;cases hy;exact h3
      . exact k5 j' y h (by omega) hy
theorem gh:∀{l:List Signed},ee l-> ∀{i j:Nat} {a b:Signed},i<j->l[i]? =some a->l[j]? =some b->cpl a.place b.place<0
 |[],_,_,_,_,_,_,h,_=>by cases h
 |x::t,hr,i,j,a,b,hij,ha,hb=>by
  cases j with
  |zero=>omega
  |succ j =>
   cases i with
   |zero=>cases ha;exact mv hr b (aq hb)
   |succ i=>exact gh hr.tail (by omega) ha hb
theorem jA{a b:Signed}(h:cpl a.place b.place<0):aI a.set.name b.set.name<=0/\(a.set.name=b.set.name->a.set.type<b.set.type):=by
 unfold cpl lex Signed.place at h;simp only at h;split at h
 . rename_i e;refine⟨by omega,λ_=>?_⟩;unfold cZ at h;split at h
   . assumption
   . split at h <;> omega
 . rename_i e;exact⟨by omega,λk=>absurd ((bp.zero _ _).2 k) e⟩
theorem Jm{a b:Bs}(h:aI a b<=0)(k:aI b a<=0):a=b:=by
 have:=bp.anti a b;exact(bp.zero _ _).1 (by omega)
theorem BC{z:aF}{i:Nat}{s p:Signed}(hs:z.sets[i]? =some s)(hp:z.sets[i-1]? =some p)(hne:s.set.name≠[]) :
 BB z i=false ↔ 0<i/\p.set.name=s.set.name/\(s.set.type=3\/(s.set.name=mf (jV z.sets i) s/\s.set.type≠3/\s.set.type≠8)):=by
 simp only[BB,hs,hp,Option.getD_some,Bool.not_eq_false'];unfold wP sL;by_cases h:0<i/\p.set.name=s.set.name
 . have hi:((decide ((i:Int)>0)&&(p.set.name==s.set.name))=true):=by simp[h.1,h.2]
   rw[if_pos hi];have:(s.set.name==[])=false:=by simpa using hne
   simp[this,h.1,h.2,and_assoc]
 . have hi:¬((decide ((i:Int)>0)&&(p.set.name==s.set.name))=true):=by
    intro k;simp at k;exact h ⟨k.1,k.2⟩
   rw[if_neg hi];simp;intro k1 k2;exact absurd ⟨k1,k2⟩ h
theorem nv{z:aF}{i:Nat}{s p:Signed}(hs:z.sets[i]? =some s)(hp:z.sets[i-1]? =some p) :
 mD z i=false ↔ s.set.type=3/\((0<i/\p.set.name=s.set.name)\/ ∃x,z.sets[i+1]? =some x/\x.set.name=s.set.name/\x.set.type≠8):=by
 simp only[mD,hs,hp,Option.getD_some,Bool.not_eq_false'];unfold uD;by_cases hlt:i+1<z.sets.length
 . obtain⟨x,hx⟩:∃x,z.sets[i+1]? =some x:=⟨_,ag hlt⟩
   have hd:decide (((i:Nat):Int)+1<(z.sets.length:Int))=true:=by simp;omega
   simp[hx,hd]
 . have hx:z.sets[i+1]? =none:=by simp;omega
   have hd:decide (((i:Nat):Int)+1<(z.sets.length:Int))=false:=by simp;omega
   simp[hx,hd]
theorem Qt{z:aF}(ho:Ordered z):sM z=aliases z:=by
 rw[Ny,aliases];have hne:∀s∈z.sets,s.set.name≠[]:=λs hs e=>by
  have:=ho.name s hs;rw[e]at this;exact absurd this (by decide)
 have h8:∀s∈z.sets,s.set.type<=8:=λs hs=>by
  have:=ho.set s hs;unfold dP at this;simp only[aB,Bool.not_eq_true',Bool.or_eq_false_iff,Bool.not_eq_false']at this;have:=this.1.1.1.1.2;unfold within at this;simp at this;omega
 rw[Bool.eq_iff_iff,ax,ax];constructor
 . intro h i hi;have hi:=List.mem_range.1 hi;obtain⟨s,hs⟩:∃s,z.sets[i]? =some s:=⟨_,ag hi⟩
   obtain⟨p,hp⟩:∃p,z.sets[i-1]? =some p:=⟨_,ag (by omega)⟩
   have hm:=aq hs;cases hb:mD z i with
   |true=>rfl
   |false =>
    obtain⟨t3,k⟩:=(nv hs hp).1 hb;rcases k with ⟨k1,k2⟩|⟨x,hx,k1,k2⟩
    . have:=h i (List.mem_range.2 hi);rw[(BC hs hp (hne s hm)).2 ⟨k1,k2,.inl t3⟩]at this;cases this
    . have hl:=(ar.1 hx).1;have hmx:=aq hx;have ht:=(jA (gh ho.rising (Nat.lt_succ_self i) hs hx)).2 k1.symm;have ea:jV z.sets (i+1)=s.set.name:=by
       simp only[jV,hs];rw[mf,if_pos (by simpa using t3)]
      have:=h (i+1) (List.mem_range.2 hl);rw[(BC hx (by simpa using hs) (hne x hmx)).2 ⟨by omega,k1.symm,.inr ⟨by rw[mf,if_neg (by simp;omega),ea,k1],by omega,k2⟩⟩]at this;cases this
 . intro h i hi;have hi:=List.mem_range.1 hi;obtain⟨s,hs⟩:∃s,z.sets[i]? =some s:=⟨_,ag hi⟩
   obtain⟨p,hp⟩:∃p,z.sets[i-1]? =some p:=⟨_,ag (by omega)⟩
   have hm:=aq hs;cases hb:BB z i with
   |true=>rfl
   |false =>
    obtain⟨k0,kn,k⟩:=(BC hs hp (hne s hm)).1 hb;rcases k with t3|⟨e,t3,t8⟩
    . have:=h i (List.mem_range.2 hi);rw[(nv hs hp).2 ⟨t3,.inl ⟨k0,kn⟩⟩]at this;cases this
    . rw[mf,if_neg (by simpa using t3)]at e;rcases BI z.sets i (by omega)with ⟨q,_⟩|⟨j,y,q1,q2,q3,q4,_⟩
      . exact absurd (e.trans q) (hne s hm)
      . have hys:y.set.name=s.set.name:=by rw[e,q4]
        obtain⟨x,hx⟩:∃x,z.sets[j+1]? =some x:=⟨_,ag (by omega)⟩
        obtain⟨p',hp'⟩:∃p',z.sets[j-1]? =some p' :=⟨_,ag (by omega)⟩
        have hyx:=(jA (gh ho.rising (Nat.lt_succ_self j) q2 hx)).1;have hno:=h j (List.mem_range.2 (by omega));by_cases ej:j+1=i
        . rw[ej,hs]at hx;cases hx;rw[(nv q2 hp').2 ⟨q3,.inr ⟨s,by rw[ej];exact hs,hys.symm,t8⟩⟩]at hno;cases hno
        . have hxs:=jA (gh ho.rising (show j+1<i by omega) hx hs);have ex:x.set.name=s.set.name:=Jm hxs.1 (by rw[<- hys];exact hyx);have:=hxs.2 ex;have:=h8 s hm;rw[(nv q2 hp').2 ⟨q3,.inr ⟨x,hx,by rw[ex,hys],by omega⟩⟩]at hno;cases hno
theorem Qx(z:aF):sO z=aY z:=by
 unfold sO aY;cases ho:ordered z with
 |false=>simp
 |true =>
  have o:=Ordered.of ho;rw[Qt o,Pj (uG o),Pb (uG o)];simp only[dC,Bool.and_assoc]
theorem yi{α:Type}{a b:List α}(hl:a.length=b.length)(h:∀i,i<a.length->a[i]? =b[i]?):a=b:=by
 apply List.ext_getElem?;intro i;by_cases hi:i<a.length
 . exact h i hi
 . rw[List.getElem?_eq_none (by omega),List.getElem?_eq_none (by omega)]
theorem AR{α:Type}{a b:List α}{k:Nat}(h:∀i,i<k->a[i]? =b[i]?)(hk:a[k]? =b[k]?):∀i,i<k+1->a[i]? =b[i]? :=λi hi=>by
 rcases Nat.lt_or_eq_of_le (Nat.le_of_lt_succ hi)with h1|rfl
 . exact h i h1
 . exact hk
theorem wH{α:Type}[DecidableEq α]{a b:α}(h:a≠b):AV.d (D.bool false)=AV.d (D.bool (decide (a=b))):=by rw[decide_eq_false h]
theorem Gf{α:Type}[DecidableEq α]{a b:α}(h:a=b):AV.d (D.bool true)=AV.d (D.bool (decide (a=b))):=by rw[decide_eq_true h]
theorem EU{α β:Type}{f:α->β}{a b:List α}(h:(((a.map f).length:Int) != ((b.map f).length:Int))=false):a.length=b.length:=by
 simp at h;omega
end NP
namespace Go.Proofs.YtjapjahfllomkaaGreatDoor
open NQ Go NP Go.RowKit
end Go.Proofs.YtjapjahfllomkaaGreatDoor
