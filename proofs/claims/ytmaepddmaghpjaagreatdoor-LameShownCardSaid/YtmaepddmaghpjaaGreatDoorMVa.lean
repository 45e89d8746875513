/-
  Merged texts.
-/
import Derived.Test.YtmaepddmaghpjaaGreatDoorTyM
import Derived.Test.YtmaepddmaghpjaaGreatDoorMZb
set_option linter.all false
namespace NP
open NQ Go
def bz(d:Datum):List D:=[.str d.text,.int .i64 d.n,.int .i64 d.m]
def mI(g:Sig):List D:=[.str g.zone,.int .i64 g.key,.int .i64 g.alg,.int .i64 g.since,.int .i64 g.till,.int .u64 g.sum]
def mG(s:gx):List D:=[.str s.name,.int .i64 s.type,.int .i64 s.life,.slice 3 (s.data.map bz)]
def ax(s:Signed):List D:=[.str s.set.name,.int .i64 s.set.type,.int .i64 s.set.life,.slice 3 (s.set.data.map bz),.slice 6 (s.sigs.map mI)]
def aT(z:aF):List D:=[.str z.apex,.slice 5 (z.sets.map ax)]
def cL(q:aR):List D:=[.str q.name,.int .i64 q.type]
def CA(r:xd):List D:=[.int .i64 r.text,.int .i64 r.leastN,.int .i64 r.mostN,.int .i64 r.leastM,.int .i64 r.mostM,.bool r.even,.bool r.single,.bool r.dH]
end NP
namespace Go.Proofs.YtmaepddmaghpjaaGreatDoor
open NQ Go NP Go.RowKit
theorem AM{w:World}{O L:Nat->Prop}{σ:Nat->Value}{a b:AV}{u v:Value}(h1:au w O L σ a u)(h2:au w O L σ b v):au w O L σ (.tuple [a,b]) (.tuple #[u,v]):=by
 refine .tuple _ _ rfl λj c hj=>?_
 rcases j with _|_|j
 . cases hj;exact h1
 . cases hj;exact h2
 . simp at hj
theorem jc(s:Bs):NQ.Fn cx 42 [.str s] (.d (.bool (aq s))) []:=by
 refine cK ⟨_,Tryz.func42,by kernel_rfl,by kernel_rfl⟩ rfl λw vs _ hsz hrep=>?_
 obtain⟨b,hb,rfl⟩:=dm (hrep 0 _ rfl);rw[qK hsz,hb];exact(Fu b w).mono λe w' ⟨he,hbel⟩=>⟨_,he,hbel,.eK _⟩
theorem qf(s:Bs):NQ.Fn cx 98 [.str s] (.d (.bool (aq s))) []:=by
 refine cK ⟨_,Tryz.func98,by kernel_rfl,by kernel_rfl⟩ rfl λw vs _ hsz hrep=>?_
 obtain⟨b,hb,rfl⟩:=dm (hrep 0 _ rfl);rw[qK hsz,hb];exact(pn b w).mono λe w' ⟨he,hbel⟩=>⟨_,he,hbel,.eK _⟩
theorem CK(s:Bs)(hv:aq s=true):NQ.Fn cx 99 [.str s] (.d (.bool (ff s))) []:=by
 refine cK ⟨_,Tryz.func99,by kernel_rfl,by kernel_rfl⟩ rfl λw vs _ hsz hrep=>?_
 obtain⟨b,hb,rfl⟩:=dm (hrep 0 _ rfl);rw[qK hsz,hb];exact(Fq b hv w).mono λe w' ⟨he,hbel⟩=>⟨_,he,hbel,.eK _⟩
theorem tG(s:Bs):NQ.Fn cx 150 [.str s] (.d (.bool (ff s))) []:=by
 refine cK ⟨_,Tryz.func150,by kernel_rfl,by kernel_rfl⟩ rfl λw vs _ hsz hrep=>?_
 obtain⟨b,hb,rfl⟩:=dm (hrep 0 _ rfl);rw[qK hsz,hb];exact(xF b w).mono λe w' ⟨he,hbel⟩=>⟨_,he,hbel ▸ Below.refl _ _,.eK _⟩
theorem nM(s:Bs):NQ.Fn cx 44 [.str s] (.tuple [.d (.str (dM s).1),.d (.int .i64 (dM s).2)]) []:=by
 refine cK ⟨_,Tryz.func44,by kernel_rfl,by kernel_rfl⟩ rfl λw vs _ hsz hrep=>?_
 obtain⟨b,hb,rfl⟩:=dm (hrep 0 _ rfl);rw[qK hsz,hb];exact(CI b w).mono λe w' ⟨he,hbel⟩=>⟨_,he,hbel,AM (.d _ _ (.str _ _ (S_mk _))) (.mkInt _ _)⟩
theorem po(s z:Bs):NQ.Fn cx 43 [.str s,.str z] (.tuple [.d (.bool (bq s z).1),.d (.int .i64 (bq s z).2)]) []:=by
 refine cK ⟨_,Tryz.func43,by kernel_rfl,by kernel_rfl⟩ rfl λw vs _ hsz hrep=>?_
 obtain⟨b,hb,rfl⟩:=dm (hrep 0 _ rfl);obtain⟨c,hc,rfl⟩:=dm (hrep 1 _ rfl);rw[qL hsz,hb,hc];exact(Ft b c w).mono λe w' ⟨he,hbel⟩=>⟨_,he,hbel,AM (.eK _) (.mkInt _ _)⟩
theorem oC(s z:Bs):NQ.Fn cx 68 [.str s,.str z] (.tuple [.d (.int .i64 (cu s z).1),.d (.int .i64 (cu s z).2)]) []:=by
 refine cK ⟨_,Tryz.func68,by kernel_rfl,by kernel_rfl⟩ rfl λw vs _ hsz hrep=>?_
 obtain⟨b,hb,rfl⟩:=dm (hrep 0 _ rfl);obtain⟨c,hc,rfl⟩:=dm (hrep 1 _ rfl);rw[qL hsz,hb,hc];exact(Ca b c w).mono λe w' ⟨he,hbel⟩=>⟨_,he,hbel,AM (.mkInt _ _) (.mkInt _ _)⟩
theorem tQ(s z:Bs)(hs:s.length<=60)(hz:z.length<=60):NQ.Fn cx 96 [.str s,.str z] (.d (.bool (aD s z))) []:=by
 refine cK ⟨_,Tryz.func96,by kernel_rfl,by kernel_rfl⟩ rfl λw vs _ hsz hrep=>?_
 obtain⟨b,hb,rfl⟩:=dm (hrep 0 _ rfl);obtain⟨c,hc,rfl⟩:=dm (hrep 1 _ rfl);rw[qL hsz,hb,hc];exact(Ku b c (by simpa using hs) (by simpa using hz) w).mono λe w' ⟨he,hbel⟩=>⟨_,he,hbel,.eK _⟩
theorem Kv(s z:Bs)(hs:s.length<=60)(hz:z.length<=60):NQ.Fn cx 195 [.str s,.str z] (.d (.int .i64 (aI s z))) []:=by
 refine cK ⟨_,Tryz.func195,by kernel_rfl,by kernel_rfl⟩ rfl λw vs _ hsz hrep=>?_
 obtain⟨b,hb,rfl⟩:=dm (hrep 0 _ rfl);obtain⟨c,hc,rfl⟩:=dm (hrep 1 _ rfl);rw[qL hsz,hb,hc];exact(tR b c (by simpa using hs) (by simpa using hz) w).mono λe w' ⟨he,hbel⟩=>⟨_,he,hbel,.mkInt _ _⟩
theorem Fp(s z:Bs)(hs:aq s=true)(hz:aq z=true):NQ.Fn cx 193 [.str s,.str z] (.tuple [.d (.int .i64 (aI s z)),.d (.int .i64 0)]) []:=by
 refine cK ⟨_,Tryz.func193,by kernel_rfl,by kernel_rfl⟩ rfl λw vs _ hsz hrep=>?_
 obtain⟨b,hb,rfl⟩:=dm (hrep 0 _ rfl);obtain⟨c,hc,rfl⟩:=dm (hrep 1 _ rfl);rw[qL hsz,hb,hc];exact(zO b c hs hz w).mono λe w' ⟨he,hbel⟩=>⟨_,he,hbel,AM (.mkInt _ _) (.mkInt _ _)⟩
theorem BX(x lo hi:Int):NQ.Fn cx 149 [.int .i64 x,.int .i64 lo,.int .i64 hi] (.d (.bool (within x lo hi))) []:=by
 refine cK ⟨_,Tryz.func149,by kernel_rfl,by kernel_rfl⟩ rfl λw vs _ hsz hrep=>?_
 rw[Tr hsz,vV (hrep 0 _ rfl),vV (hrep 1 _ rfl),vV (hrep 2 _ rfl)];exact(jF x lo hi w).mono λe w' ⟨he,hbel⟩=>⟨_,he,hbel ▸ Below.refl _ _,.eK _⟩
theorem OD(x:Int):NQ.Fn cx 112 [.int .i64 x] (.d (.bool false)) []:=by
 refine aA aO mixed Tryz.func112 (by kernel_rfl) rfl (ag rfl) ?_;conv=>whnf
 repeat' (first|(refine ae (λh=>?_) (λh=>?_) <;> (rw[h];conv=>whnf))|fail)
 all_goals (refine af rfl ?_;simp[D.cQ])
theorem nQ(x y:Int):NQ.Fn cx 60 [.int .i64 x,.int .i64 y] (.d (.int .i64 (cR x y))) []:=by
 refine aA aO mixed Tryz.func60 (by kernel_rfl) rfl (ag rfl) ?_;conv=>whnf
 repeat' (first|(refine⟨_,_,OD _,?_⟩;conv=>whnf)|(refine ae (λh=>?_) (λh=>?_) <;> (rw[h];conv=>whnf))|fail)
 all_goals (refine af rfl ?_;simp_all [D.cQ,cR];try omega)
theorem Db(x y:Bs):NQ.Fn cx 197 [.str x,.str y] (.d (.int .i64 (Go.Lib.compareBytes x y))) []:=by
 refine cK ⟨_,Tryz.func197,by kernel_rfl,by kernel_rfl⟩ rfl λw vs _ hsz hrep=>?_
 obtain⟨b,hb,rfl⟩:=dm (hrep 0 _ rfl);obtain⟨c,hc,rfl⟩:=dm (hrep 1 _ rfl);rw[qL hsz,hb,hc];exact(yB b c w).mono λe w' ⟨he,hbel⟩=>⟨_,he,hbel ▸ Below.refl _ _,.mkInt _ _⟩
end Go.Proofs.YtmaepddmaghpjaaGreatDoor
set_option maxRecDepth 100000
namespace NP
open NQ Go
def jC(l:List Int):Int:=(l.find? (· != 0)).getD 0
theorem Gf{l:List Int}{k:Nat}(h:(List.range k).all (λi=>(l[i]?.getD 0)==0)=true)(hk:l.length<=k):jC l=0:=by
 have:l.find? (· != 0)=none:=by
  rw[List.find?_eq_none];intro x hx;obtain⟨j,hj,rfl⟩:=List.getElem_of_mem hx;have:=av.1 h j (List.mem_range.2 (by omega));simpa [hj] using this
 rw[jC,this];rfl
theorem Gg{l:List Int}:∀{k:Nat} {x:Int},(List.range k).all (λi=>(l[i]?.getD 0)==0)=true->l[k]? =some x->x≠0->jC l=x:=by
 induction l with
 |nil=>intro k x _ h;simp at h
 |cons a t ih =>
  intro k x h hx h0;cases k with
  |zero=>simp at hx;subst hx;simp[jC,h0]
  |succ k =>
   have ha:a=0:=by have:=av.1 h 0 (List.mem_range.2 (by omega));simpa using this
   have:=ih (k:=k) (x:=x) (av.2 λi hi=>by
    have:=av.1 h (i+1) (List.mem_range.2 (by have:=List.mem_range.1 hi;omega));simpa using this) (by simpa using hx) h0
   simpa [jC,ha] using this
theorem Hk(x y z:Int):jC [x,y,z]=if x=0 then(if y=0 then z else y)else x:=by
 by_cases hx:x=0 <;> by_cases hy:y=0 <;> by_cases hz:z=0 <;> simp[jC,hx,hy,hz]
end NP
namespace Go.Proofs.YtmaepddmaghpjaaGreatDoor
open NQ Go NP Go.RowKit
theorem LK(s:Bs):NQ.Fn cx 196 [.str s] (.d (.bool (bV s))) []:=by
 refine cK ⟨_,Tryz.func196,by kernel_rfl,by kernel_rfl⟩ rfl λw vs _ hsz hrep=>?_
 obtain⟨b,hb,rfl⟩:=dm (hrep 0 _ rfl);rw[qK hsz,hb];exact(DL b w).mono λe w' ⟨he,hbel⟩=>⟨_,he,hbel ▸ Below.refl _ _,.eK _⟩
theorem Cn(r:xd)(d:Datum):NQ.Fn cx 151 [.agg (CA r),.agg (bz d)] (.d (.bool (dW r d))) []:=by
 refine aA aO mixed Tryz.func151 (by kernel_rfl) rfl (ag rfl) ?_;conv=>whnf
 repeat' (first|(refine⟨_,_,BX _ _ _,?_⟩;conv=>whnf)|(refine⟨_,_,tG _,?_⟩;conv=>whnf)|(refine⟨_,_,jc _,?_⟩;conv=>whnf)|(refine⟨_,_,LK _,?_⟩;conv=>whnf)|(refine ae (λh=>?_) (λh=>?_) <;> (rw[h];conv=>whnf))|fail)
 all_goals
  refine af rfl ?_;simp only[D.cQ,dW,iZ]
  simp_all
def ba(n:Int):List D:=[.int .i64 n]
theorem Jy(l:List Int)(hl:l.length<=1000):NQ.Fn cx 59 [.slice 1 (l.map ba)] (.d (.int .i64 (jC l))) []:=by
 refine aA aO mixed Tryz.func59 (by kernel_rfl) rfl (ag rfl) ?_;conv=>whnf
 refine⟨Nat,λk=>⟨[(0,.d (.slice 1 (l.map ba))),(3,.d (.int .i64 0)),(6,.d (.slice 1 (l.map ba))),(7,.d (.int .i64 ((l.map ba).length:Int))),(8,.d (.int .i64 k))],[]⟩,
  λk=>k<=l.length/\(List.range k).all (λi=>(l[i]?.getD 0)==0)=true,λk=>l.length-k,⟨0,⟨by omega,rfl⟩,aj.keep ⟨ab,ab,ab,ab,ab,trivial⟩ trivial⟩,λk ⟨hk,hall⟩=>?_⟩
 conv=>whnf
 refine ae (λh1=>?_) (λh1=>?_) <;> (rw[h1];conv=>whnf)
 . have hlt:k<l.length:=by simp at h1;omega
   obtain⟨g,hg⟩:∃g,l[k]? =some g:=⟨_,ah hlt⟩
   refine⟨aw k,ba g,aG hg,?_⟩
   conv=>whnf
   refine ae (λh=>?_) (λh=>?_) <;> (rw[h];conv=>whnf)
   . refine af rfl ?_;rw[Gg hall hg (by simpa using h)];rfl
   . refine⟨k+1,⟨by omega,?_⟩,by(show l.length-(k+1)<l.length-k;omega),aj.keep ⟨ab,ab,ab,ab,⟨an (by omega),rfl⟩,trivial⟩ trivial⟩;rw[bQ,hall,hg];simpa using h
 . refine af rfl ?_;rw[Gf hall (by simp at h1;omega)];rfl
theorem Ad(a b:Datum):NQ.Fn cx 152 [.agg (bz a),.agg (bz b)] (.d (.int .i64 (oZ a b))) []:=by
 refine aA aO mixed Tryz.func152 (by kernel_rfl) rfl (ag rfl) ?_;conv=>whnf
 repeat' (first|(refine⟨(by kernel_rfl:bg _ _=true),?_⟩;conv=>whnf)|(refine⟨_,_,Db _ _,?_⟩;conv=>whnf)|(refine⟨_,_,nQ _ _,?_⟩;conv=>whnf)|fail)
 refine⟨_,Jy [_,_,_] (by simp),rfl,?_⟩
 conv=>whnf
 refine af rfl ?_;rw[Hk];rfl
end Go.Proofs.YtmaepddmaghpjaaGreatDoor
namespace NP
open NQ Go
def mu(r:xd)(i:Nat)(d p:Datum):Bool:= !dW r d||(decide ((i:Int)>0)&&decide (oZ p d>=0))
def nA(r:xd)(l:List Datum)(i:Nat):Bool:=match l[i]?, l[i-1]? with|some d,some p=> !mu r i d p|_,_=>false
theorem sB{r:xd}{l:List Datum}{i:Nat}{d p:Datum}(h1:l[i]? =some d)(h2:l[i-1]? =some p):nA r l i= !mu r i d p:=by simp only[nA,h1,h2]
def dL(s:gx):Bool :=
 !((!aq s.name|| !within s.type 1 8|| !within s.life 0 100000)|| !within s.data.length 1 8 ||
  (((ep s.type).single&&((s.data.length:Int) != 1))||(ff s.name&& !(ep s.type).dH)))&&(List.range s.data.length).all (nA (ep s.type) s.data)
end NP
namespace Go.Proofs.YtmaepddmaghpjaaGreatDoor
open NQ Go NP Go.RowKit
theorem JM{t:Int}(h:within t 1 8=true):0<=t/\t<9/\ ∃rest,vj.drop (t.toNat*8)=CA (ep t)++rest:=by
 simp[within]at h;refine⟨by omega,by omega,?_⟩;have:t=1\/t=2\/t=3\/t=4\/t=5\/t=6\/t=7\/t=8:=by omega
 rcases this with rfl|rfl|rfl|rfl|rfl|rfl|rfl|rfl <;> exact⟨_,rfl⟩
theorem wK(s:gx):NQ.Fn cx 108 [.agg (mG s)] (.d (.bool (dL s))) []:=by
 refine aA aO mixed Tryz.func108 (by kernel_rfl) rfl (ag rfl) ?_;conv=>whnf
 repeat' (first|(refine⟨_,_,BX _ _ _,?_⟩;conv=>whnf)|(refine⟨_,_,jc _,?_⟩;conv=>whnf)|(refine ae (λh=>?_) (λh=>?_) <;> (rw[h];conv=>whnf))|(refine af rfl ?_;show AV.d (D.bool false)=_;(try simp only[ak]at *);simp only[dL, *, if_true,if_false,aB];done)|fail)
 have ht:within s.type 1 8=true:=by simp_all
 obtain⟨t1,t2,rest,hrest⟩:=JM ht;refine⟨t1,t2,?_⟩;show ig (some (AV.d (.ptr (vj.drop (s.type.toNat*8))))) _
 rw[hrest];generalize hr:ep s.type=r
 conv=>whnf
 repeat' (first|(refine⟨_,_,tG _,?_⟩;conv=>whnf)|(refine ae (λh=>?_) (λh=>?_) <;> (rw[h];conv=>whnf))|(refine af rfl ?_;show AV.d (D.bool false)=_;(try simp only[ak]at *);simp only[dL, *, if_true,if_false,aB];done)|fail)
 all_goals
  have hn:s.data.length<=8:=by simp[within]at *; omega
  have hyes:dL s=(List.range s.data.length).all (nA r s.data):=by
   simp only[ak]at *;simp only[dL, *, if_true,if_false,aB]
  refine⟨Nat,λk=>⟨[(1,.ptr 1 0),(3,.ptr 3 0),(50,.d (.slice 3 (s.data.map bz))),(51,.d (.int .i64 ((s.data.map bz).length:Int))),(52,.d (.int .i64 k))],[(1,.box ((mG s).map .d)),(3,.box ((CA r).map .d))]⟩,
   λk=>k<=s.data.length/\(List.range k).all (nA r s.data)=true,λk=>s.data.length-k,⟨0,⟨by omega,rfl⟩,aj.keep ⟨ab,ab,ab,ab,ab,trivial⟩ ⟨ab,⟨(by first|rfl|(show some (Blk.box [_,_,_,_,_,_,_,_])=_;simp only[CA,List.map_cons,List.map_nil, *])),rfl⟩,trivial⟩⟩,λk ⟨hk,hall⟩=>?_⟩
  conv=>whnf
  refine ae (λh1=>?_) (λh1=>?_) <;> (rw[h1];conv=>whnf)
  . have hlt:k<s.data.length:=by simp at h1;omega
    obtain⟨g,hg⟩:∃g,s.data[k]? =some g:=⟨_,ah hlt⟩
    obtain⟨p,hp⟩:∃p,s.data[k-1]? =some p:=⟨_,ah (by omega)⟩
    have hat:=sB (r:=r) hg hp;have hno:nA r s.data k=false->dL s=false:=λhh=>by rw[hyes,bF hlt hh]
    refine⟨aw k,bz g,aG hg,?_⟩
    conv=>whnf
    repeat' (first
     |(refine⟨(by kernel_rfl:bg _ _=true),?_⟩;conv=>whnf)
     |(refine⟨_,_,Cn r g,?_⟩;conv=>whnf)
     |(refine⟨_,_,Ad p g,?_⟩;conv=>whnf)
     |(refine ae (λh=>?_) (λh=>?_) <;> (rw[h];conv=>whnf))
     |(refine⟨(gW (by assumption) (by omega)).1,bz p,eo (by assumption) (by omega) hp,?_⟩;conv=>whnf)
     |fail)
    all_goals first
     |(refine af rfl ?_;show AV.d (D.bool false)=_;rw[hno (by rw[hat];simp only[mu, *, if_true,if_false,aB])])
     |(refine⟨k+1,⟨by omega,?_⟩,by(show s.data.length-(k+1)<s.data.length-k;omega),aj.keep ⟨ab,ab,ab,ab,⟨an (by omega),rfl⟩,trivial⟩ ⟨ab,ab,trivial⟩⟩;rw[bQ,hall,hat];simp only[mu, *, if_true,if_false,aB])
     |fail
  . refine af rfl ?_;obtain rfl:k=s.data.length:=by simp at h1;omega
    show AV.d (D.bool true)=_
    rw[hyes,hall]
end Go.Proofs.YtmaepddmaghpjaaGreatDoor
namespace NP
open NQ Go
def qj(a:Bs)(s:Int)(b:Bs)(t:Int):Int:=if a=b then cR s t else(cu a b).1
def fits(t:Int)(ap:Bool):Bool:=if t=3\/t=6 then !ap else if t=4\/t=7 then ap else true
def oc(i:Nat)(apex:Bs)(g f p:Sig):Bool :=
 !(g.zone==apex)||decide (g.key<1)||decide (g.key>1000000)||decide (g.alg<1)||decide (g.alg>3)||(decide (g.since<0)||decide (g.since>g.till)||decide (g.till>20000000)) ||
  (decide ((i:Int)>0)&&(g.since != f.since||g.till != f.till||decide (g.key<=p.key)))
def nF(l:List Sig)(apex:Bs)(i:Nat):Bool :=
 match l[i]?, l[0]?, l[i-1]? with
 |some g,some f,some p=> !oc i apex g f p
 |_,_,_=>false
theorem Pq{l:List Sig}{apex:Bs}{k:Nat}{g f p:Sig}(hg:l[k]? =some g)(hf:l[0]? =some f)(hp:l[k-1]? =some p):nF l apex k= !oc k apex g f p:=by
 simp only[nF,hg,hf,hp]
def fM(l:List Sig)(apex:Bs):Bool:= !decide ((l.length:Int)>6)&&(List.range l.length).all (nF l apex)
end NP
namespace Go.Proofs.YtmaepddmaghpjaaGreatDoor
open NQ Go NP Go.RowKit
theorem pr(a:Bs)(s:Int)(b:Bs)(t:Int):NQ.Fn cx 90 [.str a,.int .i64 s,.str b,.int .i64 t] (.d (.int .i64 (qj a s b t))) []:=by
 refine aA aO mixed Tryz.func90 (by kernel_rfl) rfl (ag rfl) ?_;conv=>whnf
 repeat' (first|(refine ae (λh=>?_) (λh=>?_) <;> (rw[h];conv=>whnf))|(refine⟨_,_,oC _ _,?_⟩;conv=>whnf)|(refine⟨_,_,nQ _ _,?_⟩;conv=>whnf)|fail)
 all_goals (refine af rfl ?_;simp_all [D.cQ,qj])
theorem FI(t:Int)(ap:Bool):NQ.Fn cx 132 [.int .i64 t,.bool ap] (.d (.bool (fits t ap))) []:=by
 refine aA aO mixed Tryz.func132 (by kernel_rfl) rfl (ag rfl) ?_;conv=>whnf
 repeat' (first|(refine ae (λh=>?_) (λh=>?_) <;> (rw[h];conv=>whnf))|fail)
 all_goals (refine af rfl ?_;simp_all [D.cQ,fits])
theorem LH(l:List Sig)(apex:Bs):NQ.Fn cx 133 [.slice 6 (l.map mI),.str apex] (.d (.bool (fM l apex))) []:=by
 refine aA aO mixed Tryz.func133 (by kernel_rfl) rfl (ag rfl) ?_;conv=>whnf
 refine ae (λh=>?_) (λh=>?_) <;> (rw[h];conv=>whnf)
 . (refine af rfl ?_;show AV.d (D.bool false)=_;(try simp only[ak]at *);simp only[fM, *, if_true,if_false,aB];done)
 . have hl:l.length<=6:=by simp at h;omega
   have hyes:fM l apex=(List.range l.length).all (nF l apex):=by
    simp only[ak]at h;simp only[fM,h,if_true,if_false,aB]
   refine⟨Nat,λk=>⟨[(0,.d (.slice 6 (l.map mI))),(1,.d (.str apex)),(10,.d (.slice 6 (l.map mI))),(11,.d (.int .i64 ((l.map mI).length:Int))),(12,.d (.int .i64 k))],[]⟩,λk=>k<=l.length/\(List.range k).all (nF l apex)=true,λk=>l.length-k,⟨0,⟨by omega,rfl⟩,aj.keep ⟨ab,ab,ab,ab,ab,trivial⟩ trivial⟩,λk ⟨hk,hall⟩=>?_⟩
   conv=>whnf
   refine ae (λh1=>?_) (λh1=>?_) <;> (rw[h1];conv=>whnf)
   . have hlt:k<l.length:=by simp at h1;omega
     obtain⟨g,hg⟩:∃g,l[k]? =some g:=⟨_,ah hlt⟩
     obtain⟨f,hf⟩:∃f,l[0]? =some f:=⟨_,ah (by omega)⟩
     obtain⟨p,hp⟩:∃p,l[k-1]? =some p:=⟨_,ah (by omega)⟩
     have hat:=Pq (apex:=apex) hg hf hp;have hno:nF l apex k=false->fM l apex=false:=λhh=>by rw[hyes,bF hlt hh]
     refine⟨aw k,mI g,aG hg,?_⟩
     conv=>whnf
     repeat' (first
      |(refine ae (λh=>?_) (λh=>?_) <;> (rw[h];conv=>whnf))
      |(refine⟨(by kernel_rfl:bg _ _=true),?_⟩;conv=>whnf)
      |(refine⟨(by decide:(0:Int)<=0),mI f,aG hf,?_⟩;conv=>whnf)
      |(refine⟨(gW (by assumption) (by omega)).1,mI p,eo (by assumption) (by omega) hp,?_⟩;conv=>whnf)
      |fail)
     all_goals first
      |(refine af rfl ?_;show AV.d (D.bool false)=_;rw[hno (by rw[hat];simp only[oc, *, if_true,if_false,aB])])
      |(refine⟨k+1,⟨by omega,?_⟩,by(show l.length-(k+1)<l.length-k;omega),aj.keep ⟨ab,ab,ab,ab,⟨an (by omega),rfl⟩,trivial⟩ trivial⟩;rw[bQ,hall,hat];simp only[oc, *, if_true,if_false,aB])
      |fail
   . refine af rfl ?_;obtain rfl:k=l.length:=by simp at h1;omega
     show AV.d (D.bool true)=_
     rw[hyes,hall]
theorem Dw(s:Signed)(q:aR):NQ.Fn cx 89 [.agg (ax s),.agg (cL q)] (.d (.int .i64 (qj s.set.name s.set.type q.name q.type))) []:=by
 refine aA aO mixed Tryz.func89 (by kernel_rfl) rfl (ag rfl) ?_;conv=>whnf
 (refine⟨_,_,pr _ _ _ _,?_⟩;conv=>whnf)
 exact af rfl rfl
end Go.Proofs.YtmaepddmaghpjaaGreatDoor
namespace NP
open NQ Go
def plc(s:Signed)(q:aR):Int:=qj s.set.name s.set.type q.name q.type
def Split(l:List Signed)(q:aR)(c:Nat):Prop:=c<=l.length/\(∀i s,l[i]? =some s->i<c->plc s q<0)/\(∀i s,l[i]? =some s->c<=i->0<=plc s q)
def foundAt(l:List Signed)(q:aR)(c:Nat):Bool:=match l[c]? with|some s=>plc s q==0|none=>false
theorem Ed{i j:Nat}(h:i+j<=1000000000):IntKind.i64.wrap ((IntKind.u64.wrap (IntKind.i64.wrap ((i:Int)+(j:Int)))).fdiv (2 ^ min (Int.toNat 1) IntKind.u64.bits))=(((i+j) / 2:Nat):Int):=by
 rw[show((2:Int) ^ min (Int.toNat 1) IntKind.u64.bits)=2 from rfl];have h1:IntKind.i64.wrap ((i:Int)+(j:Int))=((i+j:Nat):Int):=by rw[wrap_i64 (by omega) (by omega)];omega
 have h2:IntKind.u64.wrap ((i+j:Nat):Int)=((i+j:Nat):Int):=by simp[IntKind.wrap,IntKind.signed,IntKind.bits];omega
 rw[h1,h2,Int.fdiv_eq_ediv_of_nonneg _ (by decide),wrap_i64 (by omega) (by omega)];omega
end NP
namespace Go.Proofs.YtmaepddmaghpjaaGreatDoor
open NQ Go NP Go.RowKit
theorem Mq(l:List Signed)(q:aR)(c:Nat)(hl:l.length<=100000)(hc:Split l q c) :
 NQ.Fn cx 88 [.slice 5 (l.map ax),.agg (cL q),.fn 89 [] []] (.tuple [.d (.int .i64 c),.d (.bool (foundAt l q c))]) []:=by
 refine aA aO mixed Tryz.func88 (by kernel_rfl) rfl (ag rfl) ?_;conv=>whnf
 refine⟨Nat×Nat,λx=>⟨[(0,.d (.slice 5 (l.map ax))),(2,.d (.fn 89 [] [])),(4,.ptr 4 0),(8,.d (.int .i64 ((l.map ax).length:Int))),(9,.d (.int .i64 x.1)),(10,.d (.int .i64 x.2))],[(4,.box ((cL q).map .d))]⟩,
  λx=>x.1<=c/\c<=x.2/\x.2<=l.length,λx=>x.2-x.1,⟨(0,l.length),⟨by omega,hc.1,by omega⟩,aj.keep ⟨ab,ab,ab,ab,ab,⟨(by show AV.d (D.int _ _)=_;simp),rfl⟩,trivial⟩ ⟨ab,trivial⟩⟩,λ⟨i,j⟩ ⟨h1,h2,h3⟩=>?_⟩
 dsimp only at h1 h2 h3 ⊢
 conv=>whnf
 refine ae (λh=>?_) (λh=>?_) <;> (rw[h];conv=>whnf)
 . have hij:i<j:=by simp at h;omega
   (refine⟨(by kernel_rfl:bg _ _=true),?_⟩;conv=>whnf)
   rw[Ed (by omega)];obtain⟨s,hs⟩:∃s,l[(i+j) / 2]? =some s:=⟨_,ah (by omega)⟩
   refine⟨aw _,ax s,aG hs,?_⟩
   conv=>whnf
   (refine⟨_,_,Dw s q,?_⟩;conv=>whnf)
   refine ae (λh=>?_) (λh=>?_) <;> (rw[h];conv=>whnf)
   . have hlt:(i+j) / 2<c:=by
      rcases Nat.lt_or_ge ((i+j) / 2) c with hh|hh
      . exact hh
      . have:=hc.2.2 _ s hs hh;simp[plc]at h this;omega
     exact⟨((i+j) / 2+1,j),⟨by dsimp only;omega,h2,h3⟩,by dsimp only;omega,aj.keep ⟨ab,ab,ab,ab,⟨an (by omega),rfl⟩,ab,trivial⟩ ⟨ab,trivial⟩⟩
   . have hge:c<=(i+j) / 2:=by
      rcases Nat.lt_or_ge ((i+j) / 2) c with hh|hh
      . have:=hc.2.1 _ s hs hh;simp[plc]at h this;omega
      . exact hh
     exact⟨(i,(i+j) / 2),⟨h1,hge,by dsimp only;omega⟩,by dsimp only;omega,aj.keep ⟨ab,ab,ab,ab,ab,ab,trivial⟩ ⟨ab,trivial⟩⟩
 . obtain rfl:i=c:=by simp at h;omega
   clear h
   (refine⟨(by kernel_rfl:bg _ _=true),?_⟩;conv=>whnf)
   refine ae (λh=>?_) (λh=>?_) <;> (rw[h];conv=>whnf)
   . have hlt:i<l.length:=by simp at h;omega
     obtain⟨s,hs⟩:∃s,l[i]? =some s:=⟨_,ah hlt⟩
     refine⟨aw _,ax s,aG hs,?_⟩
     conv=>whnf
     (refine⟨_,_,Dw s q,?_⟩;conv=>whnf)
     refine af rfl ?_;show AV.tuple [AV.d (.int .i64 i),AV.d (.bool _)]=_
     simp[foundAt,plc,hs]
   . refine af rfl ?_;show AV.tuple [AV.d (.int .i64 i),AV.d (.bool _)]=_
     have:l[i]? =none:=by simp at h;simp;omega
     simp[foundAt,this]
theorem QN(z:aF)(q:aR)(c:Nat)(hl:z.sets.length<=100000)(hc:Split z.sets q c) :
 NQ.Fn cx 40 [.agg (aT z),.agg (cL q)] (.tuple [.d (.int .i64 c),.d (.bool (foundAt z.sets q c))]) []:=by
 refine aA aO mixed Tryz.func40 (by kernel_rfl) rfl (ag rfl) ?_;conv=>whnf
 (refine⟨_,_,Mq z.sets q c hl hc,?_⟩;conv=>whnf)
 exact af rfl rfl
end Go.Proofs.YtmaepddmaghpjaaGreatDoor
namespace NP
open NQ Go
def lv(apex:Bs)(i:Nat)(s p:Signed):Bool:= !dL s.set|| !(bq s.set.name apex).1||(!((i:Int)==0)&&decide (qj p.set.name p.set.type s.set.name s.set.type>=0))
def qx(z:aF)(i:Nat):Bool:=match z.sets[i]?, z.sets[i-1]? with|some s,some p=> !lv z.apex i s p|_,_=>false
theorem pP{z:aF}{i:Nat}{s p:Signed}(h1:z.sets[i]? =some s)(h2:z.sets[i-1]? =some p):qx z i= !lv z.apex i s p:=by simp only[qx,h1,h2]
def ordered(z:aF):Bool:= !((!aq z.apex||ff z.apex)||decide ((z.sets.length:Int)>20000))&&(List.range z.sets.length).all (qx z)
theorem GW{k:Nat}(h:((k:Int)==0)=false):decide ((k:Int)>0)=true:=by simp at h ⊢;omega
end NP
namespace Go.Proofs.YtmaepddmaghpjaaGreatDoor
open NQ Go NP Go.RowKit
theorem Gq(s:Bs):Go.Lib.hasPrefix s [42]=ff s:=by
 unfold Go.Lib.hasPrefix ff;cases s with
 |nil=>rfl
 |cons c t=>simp only[List.isPrefixOf,List.head?_cons];rw[Bool.eq_iff_iff];simp;exact eq_comm
theorem RH(s:Bs):NQ.Fn cx 131 [.str s,.str [42]] (.d (.bool (ff s))) []:=by
 refine cK ⟨_,Tryz.func131,by kernel_rfl,by kernel_rfl⟩ rfl λw vs _ hsz hrep=>?_
 obtain⟨b,hb,rfl⟩:=dm (hrep 0 _ rfl);obtain⟨c,hc,hc'⟩:=dm (hrep 1 _ rfl);rw[qL hsz,hb,hc];refine(Tryz.strings_HasPrefix _ _ _).mono ?_;rintro e w' ⟨rfl,rfl⟩;rw[hc',Gq];exact⟨_,rfl,Below.refl _ _,.eK _⟩
theorem JA(z:aF):NQ.Fn cx 81 [.agg (aT z)] (.d (.bool (ordered z))) []:=by
 refine aA aO mixed Tryz.func81 (by kernel_rfl) rfl (ag rfl) ?_;conv=>whnf
 repeat' (first|(refine⟨_,_,jc _,?_⟩;conv=>whnf)|(refine⟨_,_,RH _,?_⟩;conv=>whnf)|(refine ae (λh=>?_) (λh=>?_) <;> (rw[h];conv=>whnf))|(refine af rfl ?_;show AV.d (D.bool false)=_;(try simp only[ak]at *);simp only[ordered, *, if_true,if_false,aB];done)|fail)
 have hn:z.sets.length<=20000:=by simp at *; omega
 have hyes:ordered z=(List.range z.sets.length).all (qx z):=by
  simp only[ak]at *;simp only[ordered, *, if_true,if_false,aB]
 refine⟨Nat,λk=>⟨[(1,.ptr 1 0),(28,.d (.slice 5 (z.sets.map ax))),(29,.d (.int .i64 ((z.sets.map ax).length:Int))),(30,.d (.int .i64 k))],[(1,.box ((aT z).map .d))]⟩,
  λk=>k<=z.sets.length/\(List.range k).all (qx z)=true,λk=>z.sets.length-k,⟨0,⟨by omega,rfl⟩,aj.keep ⟨ab,ab,ab,ab,trivial⟩ ⟨ab,trivial⟩⟩,λk ⟨hk,hall⟩=>?_⟩
 conv=>whnf
 refine ae (λh1=>?_) (λh1=>?_) <;> (rw[h1];conv=>whnf)
 . have hlt:k<z.sets.length:=by simp at h1;omega
   obtain⟨s,hs⟩:∃s,z.sets[k]? =some s:=⟨_,ah hlt⟩
   obtain⟨p,hp⟩:∃p,z.sets[k-1]? =some p:=⟨_,ah (by omega)⟩
   have hat:=pP hs hp;have hno:qx z k=false->ordered z=false:=λhh=>by rw[hyes,bF hlt hh]
   refine⟨aw k,ax s,aG hs,?_⟩
   conv=>whnf
   repeat' (first
    |(refine⟨_,_,wK s.set,?_⟩;conv=>whnf)
    |(refine⟨_,_,po _ _,?_⟩;conv=>whnf)
    |(refine⟨_,_,pr _ _ _ _,?_⟩;conv=>whnf)
    |(refine ae (λh=>?_) (λh=>?_) <;> (rw[h];conv=>whnf))
    |(refine⟨(by kernel_rfl:bg _ _=true),?_⟩;conv=>whnf)
    |(refine⟨(gW (GW (by assumption)) (by omega)).1,ax p,eo (GW (by assumption)) (by omega) hp,?_⟩;conv=>whnf)
    |fail)
   all_goals first
    |(refine af rfl ?_;show AV.d (D.bool false)=_;rw[hno (by rw[hat];simp only[lv, *, if_true,if_false,aB])])
    |(refine⟨k+1,⟨by omega,?_⟩,by(show z.sets.length-(k+1)<z.sets.length-k;omega),aj.keep ⟨ab,ab,ab,⟨an (by omega),rfl⟩,trivial⟩ ⟨ab,trivial⟩⟩;rw[bQ,hall,hat];simp only[lv, *, if_true,if_false,aB])
    |fail
 . refine af rfl ?_;obtain rfl:k=z.sets.length:=by simp at h1;omega
   show AV.d (D.bool true)=_
   rw[hyes,hall]
end Go.Proofs.YtmaepddmaghpjaaGreatDoor
namespace NP
open NQ Go
def jl(z:aF)(i:Nat):Bool:=match z.sets[i]? with|some s=>fits s.set.type (s.set.name==z.apex)|none=>false
def iu(has:Int->Bool)(z:aF):Bool:=has 4&&has 2&&(List.range z.sets.length).all (jl z)
end NP
namespace Go.Proofs.YtmaepddmaghpjaaGreatDoor
open NQ Go NP Go.RowKit
theorem CQ(z:aF)(hn:z.sets.length<=100000)(pos:Int->Nat)(has:Int->Bool)(hf:∀t,NQ.Fn cx 40 [.agg (aT z),.agg (cL ⟨z.apex,t⟩)] (.tuple [.d (.int .i64 (pos t)),.d (.bool (has t))]) []) :
 NQ.Fn cx 82 [.agg (aT z)] (.d (.bool (iu has z))) []:=by
 refine aA aO mixed Tryz.func82 (by kernel_rfl) rfl (ag rfl) ?_;conv=>whnf
 refine⟨Nat,λk=>⟨[(1,.ptr 1 0),(9,.own 9),(10,.d (.int .i64 2)),(11,.d (.int .i64 k))],[(1,.box ((aT z).map .d)),(9,.row 3 1 [[.int .i64 4],[.int .i64 2]])]⟩,
  λk=>k<=2/\(0<k->has 4=true)/\(1<k->has 2=true),λk=>2-k,⟨0,⟨by omega,by omega,by omega⟩,aj.keep ⟨ab,ab,ab,ab,trivial⟩ ⟨ab,ab,trivial⟩⟩,λk ⟨hk,ha,hb⟩=>?_⟩
 conv=>whnf
 refine ae (λh1=>?_) (λh1=>?_) <;> (rw[h1];conv=>whnf)
 . have hlt:k<2:=by simp at h1;omega
   have hk2:k=0\/k=1:=by omega
   rcases hk2 with rfl|rfl
   . refine⟨by decide,by decide,?_⟩
     conv=>whnf
     refine⟨[.int .i64 4],rfl,?_⟩
     conv=>whnf
     (refine⟨_,_,hf 4,?_⟩;conv=>whnf)
     refine ae (λh=>?_) (λh=>?_) <;> (rw[h];conv=>whnf)
     . refine af rfl ?_;have h4:has 4=false:=by simpa using h
       simp[D.cQ,iu,h4]
     . exact⟨1,⟨by omega,λ_=>by simpa using h,by omega⟩,by decide,aj.keep ⟨ab,ab,ab,⟨an (by omega),rfl⟩,trivial⟩ ⟨ab,ab,trivial⟩⟩
   . refine⟨by decide,by decide,?_⟩
     conv=>whnf
     refine⟨[.int .i64 2],rfl,?_⟩
     conv=>whnf
     (refine⟨_,_,hf 2,?_⟩;conv=>whnf)
     refine ae (λh=>?_) (λh=>?_) <;> (rw[h];conv=>whnf)
     . refine af rfl ?_;have h4:has 2=false:=by simpa using h
       simp[D.cQ,iu,h4]
     . exact⟨2,⟨by omega,λ_=>ha (by omega),λ_=>by simpa using h⟩,by decide,aj.keep ⟨ab,ab,ab,⟨an (by omega),rfl⟩,trivial⟩ ⟨ab,ab,trivial⟩⟩
 . have h2:k=2:=by simp at h1;omega
   have h4:=ha (by omega);have h5:=hb (by omega);have hyes:iu has z=(List.range z.sets.length).all (jl z):=by simp only[iu,h4,h5,if_true,if_false,aB]
   clear h1 ha hb;refine⟨Nat,λk=>⟨[(1,.ptr 1 0),(30,.d (.slice 5 (z.sets.map ax))),(31,.d (.int .i64 ((z.sets.map ax).length:Int))),(32,.d (.int .i64 k))],[(1,.box ((aT z).map .d))]⟩,
    λk=>k<=z.sets.length/\(List.range k).all (jl z)=true,λk=>z.sets.length-k,⟨0,⟨by omega,rfl⟩,aj.keep ⟨ab,ab,ab,ab,trivial⟩ ⟨ab,trivial⟩⟩,λk ⟨hk,hall⟩=>?_⟩
   conv=>whnf
   refine ae (λh1=>?_) (λh1=>?_) <;> (rw[h1];conv=>whnf)
   . have hlt:k<z.sets.length:=by simp at h1;omega
     obtain⟨s,hs⟩:∃s,z.sets[k]? =some s:=⟨_,ah hlt⟩
     have hat:jl z k=fits s.set.type (s.set.name==z.apex):=by simp only[jl,hs]
     have hno:jl z k=false->iu has z=false:=λhh=>by rw[hyes,bF hlt hh]
     refine⟨aw k,ax s,aG hs,?_⟩
     conv=>whnf
     repeat' (first|(refine⟨_,_,FI _ _,?_⟩;conv=>whnf)|(refine ae (λh=>?_) (λh=>?_) <;> (rw[h];conv=>whnf))|(refine⟨(by kernel_rfl:bg _ _=true),?_⟩;conv=>whnf)|fail)
     all_goals first
      |(refine af rfl ?_;show AV.d (D.bool false)=_;rw[hno (by rw[hat];simp_all)])
      |(refine⟨k+1,⟨by omega,?_⟩,by(show z.sets.length-(k+1)<z.sets.length-k;omega),aj.keep ⟨ab,ab,ab,⟨an (by omega),rfl⟩,trivial⟩ ⟨ab,trivial⟩⟩;rw[bQ,hall,hat];simp_all)
      |fail
   . refine af rfl ?_;obtain rfl:k=z.sets.length:=by simp at h1;omega
     show AV.d (D.bool true)=_
     rw[hyes,hall]
end Go.Proofs.YtmaepddmaghpjaaGreatDoor
namespace NP
open NQ Go
def aL(s:Bs):List D:=[.str s]
def sQ(z:aF)(b:List Bs):List D:=[.str z.apex,.slice 5 (z.sets.map ax),.slice 1 (b.map aL)]
def tV(n i:Nat)(s p x:Signed):Bool :=
 !(s.set.type != 3)&&((decide ((i:Int)>0)&&(p.set.name==s.set.name))||(decide (((i:Nat):Int)+1<(n:Int))&&(x.set.name==s.set.name)&&(x.set.type != 8)))
def mi(z:aF)(i:Nat):Bool :=
 match z.sets[i]? with
 |some s=> !tV z.sets.length i s ((z.sets[i-1]?).getD s) ((z.sets[i+1]?).getD s)
 |none=>false
def aliases(z:aF):Bool:=(List.range z.sets.length).all (mi z)
def jW(s:Signed)(b:Bs):Bool :=
 if (b==[])=true then s.set.type==6
 else if (b==s.set.name)=true then(s.set.type != 2)&&(s.set.type != 6)&&(s.set.type != 8)&&(s.set.type != 1)
 else s.set.type != 1
def cutAt(z:aF)(b:List Bs)(i:Nat):Bool:=match z.sets[i]?, b[i]? with|some s,some x=> !jW s x|_,_=>false
def ny(z:aF)(b:List Bs):Bool:=(List.range z.sets.length).all (cutAt z b)
def mH(s:Signed)(b:Bs):Bool:=(!(b==[])&&((s.set.type==2)||(s.set.type==1)))&&decide ((s.sigs.length:Int)>0)
def oT(z:aF)(b:List Bs)(i:Nat):Bool:=match z.sets[i]?, b[i]? with|some s,some x=> !mH s x|_,_=>false
def oU(z:aF)(b:List Bs):Bool:=(List.range z.sets.length).all (oT z b)
def lE(z:aF)(i:Nat):Bool:=match z.sets[i]? with|some s=>fM s.sigs z.apex|none=>false
def nC(z:aF):Bool:=(List.range z.sets.length).all (lE z)
theorem wrap_add{k:Nat}(hk:k<=4611686018427387904):IntKind.i64.wrap ((k:Int)+1)=(k:Int)+1:=wrap_i64 (by omega) (by omega)
theorem OT{α:Type}{f:α->List D}{l:List α}{k:Nat}{g:α}(hg:l[k+1]? =some g):(l.map f)[((k:Int)+1).toNat]? =some (f g):=by
 rw[show((k:Int)+1).toNat=k+1 by omega];simp[hg]
end NP
namespace Go.Proofs.YtmaepddmaghpjaaGreatDoor
open NQ Go NP Go.RowKit
theorem zS(z:aF)(b:List Bs)(hn:z.sets.length<=100000):NQ.Fn cx 84 [.agg (sQ z b)] (.d (.bool (aliases z))) []:=by
 refine aA aO mixed Tryz.func84 (by kernel_rfl) rfl (ag rfl) ?_;conv=>whnf
 have hyes:aliases z=(List.range z.sets.length).all (mi z):=rfl;refine⟨Nat,λk=>⟨[(1,.ptr 1 0),(8,.d (.slice 5 (z.sets.map ax))),(9,.d (.int .i64 ((z.sets.map ax).length:Int))),(10,.d (.int .i64 k))],[(1,.box ((sQ z b).map .d))]⟩,λk=>k<=z.sets.length/\(List.range k).all (mi z)=true,λk=>z.sets.length-k,⟨0,⟨by omega,rfl⟩,aj.keep ⟨ab,ab,ab,ab,trivial⟩ ⟨ab,trivial⟩⟩,λk ⟨hk,hall⟩=>?_⟩;(conv=>whnf);refine ae (λh1=>?_) (λh1=>?_) <;> (rw[h1];conv=>whnf)
 . have hlt:k<z.sets.length:=by simp at h1;omega
   obtain⟨s,hs⟩:∃s,z.sets[k]? =some s:=⟨_,ah hlt⟩
   obtain⟨p,hp⟩:∃p,z.sets[k-1]? =some p:=⟨_,ah (by omega)⟩
   obtain⟨x,hx⟩:∃x,x=(z.sets[k+1]?).getD s:=⟨_,rfl⟩
   have hat:mi z k= !tV z.sets.length k s p x:=by simp only[mi,hs,hp,Option.getD_some, <- hx]
   have hno:mi z k=false->aliases z=false:=λhh=>by rw[hyes,bF hlt hh]
   have hxx:k+1<z.sets.length->z.sets[k+1]? =some x:=λhq=>by rw[hx,ah hq];rfl
   clear hx;have hw:=wrap_add (k:=k) (by omega);refine⟨aw k,ax s,aG hs,?_⟩
   conv=>whnf
   repeat' (first
    |(refine⟨(by kernel_rfl:bg _ _=true),?_⟩;conv=>whnf)
    |(refine af rfl ?_;show AV.d (D.bool false)=_;(try simp only[ak]at *);rw[hno (by rw[hat];simp only[tV, *, if_true,if_false,aB])];done)
    |(refine⟨k+1,⟨by omega,?_⟩,by(show z.sets.length-(k+1)<z.sets.length-k;omega),aj.keep ⟨ab,ab,ab,⟨an (by omega),rfl⟩,trivial⟩ ⟨ab,trivial⟩⟩;rw[bQ,hall,hat];((try simp only[ak]at *);simp only[tV, *, if_true,if_false,aB];done))
    |(rw[hw];(refine ae (λh=>?_) (λh=>?_) <;> (rw[h];conv=>whnf)))
    |(refine ae (λh=>?_) (λh=>?_) <;> (rw[h];conv=>whnf))
    |(refine⟨(gW (by assumption) (by omega)).1,ax p,eo (by assumption) (by omega) hp,?_⟩;conv=>whnf)
    |(rw[hw];refine⟨by omega,ax x,OT (by have hq:= ‹decide (((k:Nat):Int)+1<_)=true›;exact hxx (by simp at hq;omega)),?_⟩;conv=>whnf)
    |fail)
 . (refine af rfl ?_;obtain rfl:k=z.sets.length:=(by simp at h1;omega);show AV.d (D.bool true)=_;rw[hyes,hall])
theorem FC(z:aF)(b:List Bs)(hn:z.sets.length<=100000)(hb:b.length=z.sets.length):NQ.Fn cx 85 [.agg (sQ z b)] (.d (.bool (ny z b))) []:=by
 refine aA aO mixed Tryz.func85 (by kernel_rfl) rfl (ag rfl) ?_;conv=>whnf
 have hyes:ny z b=(List.range z.sets.length).all (cutAt z b):=rfl;refine⟨Nat,λk=>⟨[(1,.ptr 1 0),(9,.d (.slice 5 (z.sets.map ax))),(10,.d (.int .i64 ((z.sets.map ax).length:Int))),(11,.d (.int .i64 k))],[(1,.box ((sQ z b).map .d))]⟩,λk=>k<=z.sets.length/\(List.range k).all (cutAt z b)=true,λk=>z.sets.length-k,⟨0,⟨by omega,rfl⟩,aj.keep ⟨ab,ab,ab,ab,trivial⟩ ⟨ab,trivial⟩⟩,λk ⟨hk,hall⟩=>?_⟩;(conv=>whnf);refine ae (λh1=>?_) (λh1=>?_) <;> (rw[h1];conv=>whnf)
 . have hlt:k<z.sets.length:=by simp at h1;omega
   obtain⟨s,hs⟩:∃s,z.sets[k]? =some s:=⟨_,ah hlt⟩
   obtain⟨x,hx⟩:∃x,b[k]? =some x:=⟨_,ah (by omega)⟩
   have hat:cutAt z b k= !jW s x:=by simp only[cutAt,hs,hx]
   have hno:cutAt z b k=false->ny z b=false:=λhh=>by rw[hyes,bF hlt hh]
   refine⟨aw k,ax s,aG hs,?_⟩
   conv=>whnf
   repeat' (first
    |(refine⟨(by kernel_rfl:bg _ _=true),?_⟩;conv=>whnf)
    |(refine af rfl ?_;show AV.d (D.bool false)=_;(try simp only[ak]at *);rw[hno (by rw[hat];simp only[jW, *, if_true,if_false,aB])];done)
    |(refine⟨k+1,⟨by omega,?_⟩,by(show z.sets.length-(k+1)<z.sets.length-k;omega),aj.keep ⟨ab,ab,ab,⟨an (by omega),rfl⟩,trivial⟩ ⟨ab,trivial⟩⟩;rw[bQ,hall,hat];((try simp only[ak]at *);simp only[jW, *, if_true,if_false,aB];done))
    |(refine⟨aw k,aL x,aG hx,?_⟩;conv=>whnf)
    |(refine ae (λh=>?_) (λh=>?_) <;> (rw[h];conv=>whnf))
    |fail)
 . (refine af rfl ?_;obtain rfl:k=z.sets.length:=(by simp at h1;omega);show AV.d (D.bool true)=_;rw[hyes,hall])
theorem Gl(z:aF)(b:List Bs)(hn:z.sets.length<=100000)(hb:b.length=z.sets.length):NQ.Fn cx 86 [.agg (sQ z b)] (.d (.bool (oU z b))) []:=by
 refine aA aO mixed Tryz.func86 (by kernel_rfl) rfl (ag rfl) ?_;conv=>whnf
 have hyes:oU z b=(List.range z.sets.length).all (oT z b):=rfl;refine⟨Nat,λk=>⟨[(1,.ptr 1 0),(9,.d (.slice 5 (z.sets.map ax))),(10,.d (.int .i64 ((z.sets.map ax).length:Int))),(11,.d (.int .i64 k))],[(1,.box ((sQ z b).map .d))]⟩,λk=>k<=z.sets.length/\(List.range k).all (oT z b)=true,λk=>z.sets.length-k,⟨0,⟨by omega,rfl⟩,aj.keep ⟨ab,ab,ab,ab,trivial⟩ ⟨ab,trivial⟩⟩,λk ⟨hk,hall⟩=>?_⟩;(conv=>whnf);refine ae (λh1=>?_) (λh1=>?_) <;> (rw[h1];conv=>whnf)
 . have hlt:k<z.sets.length:=by simp at h1;omega
   obtain⟨s,hs⟩:∃s,z.sets[k]? =some s:=⟨_,ah hlt⟩
   obtain⟨x,hx⟩:∃x,b[k]? =some x:=⟨_,ah (by omega)⟩
   have hat:oT z b k= !mH s x:=by simp only[oT,hs,hx]
   have hno:oT z b k=false->oU z b=false:=λhh=>by rw[hyes,bF hlt hh]
   refine⟨aw k,ax s,aG hs,?_⟩
   conv=>whnf
   repeat' (first
    |(refine⟨(by kernel_rfl:bg _ _=true),?_⟩;conv=>whnf)
    |(refine af rfl ?_;show AV.d (D.bool false)=_;(try simp only[ak]at *);rw[hno (by rw[hat];simp only[mH, *, if_true,if_false,aB])];done)
    |(refine⟨k+1,⟨by omega,?_⟩,by(show z.sets.length-(k+1)<z.sets.length-k;omega),aj.keep ⟨ab,ab,ab,⟨an (by omega),rfl⟩,trivial⟩ ⟨ab,trivial⟩⟩;rw[bQ,hall,hat];((try simp only[ak]at *);simp only[mH, *, if_true,if_false,aB];done))
    |(refine⟨aw k,aL x,aG hx,?_⟩;conv=>whnf)
    |(refine ae (λh=>?_) (λh=>?_) <;> (rw[h];conv=>whnf))
    |fail)
 . (refine af rfl ?_;obtain rfl:k=z.sets.length:=(by simp at h1;omega);show AV.d (D.bool true)=_;rw[hyes,hall])
theorem DA(z:aF)(b:List Bs)(hn:z.sets.length<=100000):NQ.Fn cx 87 [.agg (sQ z b)] (.d (.bool (nC z))) []:=by
 refine aA aO mixed Tryz.func87 (by kernel_rfl) rfl (ag rfl) ?_;conv=>whnf
 have hyes:nC z=(List.range z.sets.length).all (lE z):=rfl;refine⟨Nat,λk=>⟨[(1,.ptr 1 0),(8,.d (.slice 5 (z.sets.map ax))),(9,.d (.int .i64 ((z.sets.map ax).length:Int))),(10,.d (.int .i64 k))],[(1,.box ((sQ z b).map .d))]⟩,λk=>k<=z.sets.length/\(List.range k).all (lE z)=true,λk=>z.sets.length-k,⟨0,⟨by omega,rfl⟩,aj.keep ⟨ab,ab,ab,ab,trivial⟩ ⟨ab,trivial⟩⟩,λk ⟨hk,hall⟩=>?_⟩;(conv=>whnf);refine ae (λh1=>?_) (λh1=>?_) <;> (rw[h1];conv=>whnf)
 . have hlt:k<z.sets.length:=by simp at h1;omega
   obtain⟨s,hs⟩:∃s,z.sets[k]? =some s:=⟨_,ah hlt⟩
   have hat:lE z k= !(!fM s.sigs z.apex):=by simp only[lE,hs,oo]
   have hno:lE z k=false->nC z=false:=λhh=>by rw[hyes,bF hlt hh]
   refine⟨aw k,ax s,aG hs,?_⟩
   conv=>whnf
   repeat' (first
    |(refine⟨(by kernel_rfl:bg _ _=true),?_⟩;conv=>whnf)
    |(refine af rfl ?_;show AV.d (D.bool false)=_;(try simp only[ak]at *);rw[hno (by rw[hat];simp only[lE, *, if_true,if_false,aB])];done)
    |(refine⟨k+1,⟨by omega,?_⟩,by(show z.sets.length-(k+1)<z.sets.length-k;omega),aj.keep ⟨ab,ab,ab,⟨an (by omega),rfl⟩,trivial⟩ ⟨ab,trivial⟩⟩;rw[bQ,hall,hat];((try simp only[ak]at *);simp only[lE, *, if_true,if_false,aB];done))
    |(refine⟨_,_,LH s.sigs z.apex,?_⟩;conv=>whnf)
    |(refine ae (λh=>?_) (λh=>?_) <;> (rw[h];conv=>whnf))
    |fail)
 . (refine af rfl ?_;obtain rfl:k=z.sets.length:=(by simp at h1;omega);show AV.d (D.bool true)=_;rw[hyes,hall])
end Go.Proofs.YtmaepddmaghpjaaGreatDoor
namespace NP
open NQ Go
def db(apex:Bs)(s:Signed):Bool:=(s.set.type==2)&& !(s.set.name==apex)
def gU(apex:Bs):List Signed->List (Bs×D)->List (Bs×D)
 |[],m=>m
 |s::t,m=>gU apex t (if db apex s=true then dB s.set.name (.bool true) m else m)
def dJ(apex:Bs)(l:List Signed)(n:Bs):Bool:=l.any λs=>db apex s&&(s.set.name==n)
theorem zt(k n:Bs)(v:D):∀m,cD n (dB k v m)=if n=k then some v else cD n m
 |[]=>by simp only[dB,cD]
 |(k',v')::t=>by
  simp only[dB];by_cases h:k=k'
  . subst h;simp only[if_true,cD];by_cases h2:n=k <;> simp only[h2,if_true,if_false]
  . simp only[h,if_false,cD,zt k n v t];by_cases h2:n=k'
    . subst h2;have h3:¬n=k:=λe=>h e.symm
      simp only[if_true,h3,if_false]
    . simp only[h2,if_false]
theorem qX(apex n:Bs):∀(l:List Signed) (m:List (Bs×D)),cD n (gU apex l m)=if dJ apex l n=true then some (.bool true)else cD n m
 |[],m=>by simp[gU,dJ]
 |s::t,m=>by
  rw[gU,qX apex n t];by_cases h:db apex s=true
  . rw[if_pos h,zt];by_cases hn:n=s.set.name
    . subst hn;simp[dJ,h]
    . have hn' :(s.set.name==n)=false:=by simpa using λe=>hn e.symm
      simp only[hn,if_false,dJ,List.any_cons,h,hn',iE,dF]
  . have h' :db apex s=false:=by simpa using h
    simp only[dJ,List.any_cons,h',iF,dF,dI,if_false]
def jJ(cut:Bs->Bool)(c n:Bs):Bs :=
 let c' :=if (!(c==[])&& !(bq n c).1)=true then[]else c
 if ((c' ==[])&&cut n)=true then n else c'
def bh(cut:Bs->Bool):Bs->List Signed->List Bs
 |_,[]=>[]
 |c,s::t=>jJ cut c s.set.name::bh cut (jJ cut c s.set.name) t
def cO(z:aF):List Bs:=bh (dJ z.apex z.sets) [] z.sets
theorem tZ(cut:Bs->Bool):∀(c:Bs) (l:List Signed),(bh cut c l).length=l.length
 |_,[]=>rfl
 |c,s::t=>by simp[bh,tZ cut _ t]
theorem Hq(done:List Bs)(n:Nat)(c:Bs):(done++List.replicate (n+1) []).set done.length c=(done++[c])++List.replicate n []:=by
 rw[List.replicate_succ,List.set_append];simp
theorem qY(apex:Bs)(s:Signed):∀(l:List Signed) (m:List (Bs×D)),gU apex (l++[s]) m=if db apex s=true then dB s.set.name (.bool true) (gU apex l m)else gU apex l m
 |[],m=>rfl
 |x::t,m=>by rw[List.cons_append,gU,gU,qY apex s t]
theorem bj{α:Type}{l:List α}{k:Nat}{x:α}(h:l[k]? =some x):l.take (k+1)=l.take k++[x]:=by
 rw[List.take_add_one,h];rfl
theorem Bv{b:Bool}(h:(!b)=false)(h' :b=false):False:=by subst h';cases h
end NP
namespace Go.Proofs.YtmaepddmaghpjaaGreatDoor
open NQ Go NP Go.RowKit
theorem Sv(z:aF)(hn:z.sets.length<=100000):NQ.Fn cx 83 [.agg (aT z)] (.agg ((sQ z (cO z)).map .d)) []:=by
 refine aA aO mixed Tryz.func83 (by kernel_rfl) rfl (ag rfl) ?_;conv=>whnf
 refine ⟨Nat, fun k => ⟨[(1, .ptr 1 0), (2, .ptr 2 0), (3, .omap 13), (16, .d (.slice 5 (z.sets.map ax))), (17, .d (.int .i64 ((z.sets.map ax).length : Int))), (18, .d (.int .i64 k))],
     [(1,.box ((aT z).map .d)),(2,.box [.d (.str []),.nil 5,.nil 1]),(13,.smap (gU z.apex (z.sets.take k) []))]⟩,
  λk=>k<=z.sets.length,λk=>z.sets.length-k,⟨0,by omega,aj.keep ⟨ab,ab,ab,ab,ab,ab,trivial⟩ ⟨ab,ab,ab,trivial⟩⟩,λk hk=>?_⟩
 conv=>whnf
 refine ae (λh1=>?_) (λh1=>?_) <;> (rw[h1];conv=>whnf)
 . have hlt:k<z.sets.length:=by simp at h1;omega
   obtain⟨s,hs⟩:∃s,z.sets[k]? =some s:=⟨_,ah hlt⟩
   refine⟨aw k,ax s,aG hs,?_⟩
   conv=>whnf
   have hm:=qY z.apex s (z.sets.take k) [];rw[<- bj hs]at hm
   repeat' (first
    |(refine⟨(by kernel_rfl:bg _ _=true),?_⟩;conv=>whnf)
    |(refine⟨k+1,hlt,by(show z.sets.length-(k+1)<z.sets.length-k;omega),aj.keep ⟨ab,ab,ab,ab,ab,⟨an (by omega),rfl⟩,trivial⟩ ⟨ab,ab,⟨?_,rfl⟩,trivial⟩⟩;show some (Blk.smap _)=some (Blk.smap _);rw[hm];simp only[db, *, if_true,if_false,aB];done)
    |(refine ae (λh=>?_) (λh=>?_) <;> (rw[h];conv=>whnf))
    |fail)
 . obtain rfl:k=z.sets.length:=by simp at h1;omega
   (refine⟨(by kernel_rfl:bg _ _=true),?_⟩;conv=>whnf)
   refine⟨by omega,.inl rfl,by omega,by(simp only[ak];omega),by(simp only[ak];omega),?_⟩
   conv=>whnf
   refine ⟨Nat × Bs × List Bs, fun x => ⟨[(1, .ptr 1 0), (2, .ptr 2 0), (3, .omap 13), (6, .ptr 6 0), (7, .d (.str x.2.1)), (49, .d (.slice 5 (z.sets.map ax))), (50, .d (.int .i64 ((z.sets.map ax).length : Int))), (51, .d (.int .i64 x.1))],
       [(1,.box ((aT z).map .d)),(2,.box [.d (.str []),.nil 5,.nil 1]),(13,.smap (gU z.apex z.sets [])),(45,.row 9 1 ((x.2.2++List.replicate (z.sets.length-x.1) []).map aL) true),(6,.box [.d (.str z.apex),.d (.slice 5 (z.sets.map ax)),.own 45])]⟩,
    λx=>x.1<=z.sets.length/\x.2.2.length=x.1/\x.2.2++bh (dJ z.apex z.sets) x.2.1 (z.sets.drop x.1)=cO z,λx=>z.sets.length-x.1,
    ⟨(0,[],[]),⟨by simp,rfl,rfl⟩,aj.keep ⟨ab,ab,ab,ab,ab,ab,ab,ab,trivial⟩ ⟨ab,ab,⟨by(show some (Blk.smap (gU z.apex (z.sets.take z.sets.length) []))=_;rw[List.take_length]),rfl⟩,⟨by(show some (Blk.row _ _ (List.replicate ((z.sets.map ax).length:Int).toNat _) true)=some (Blk.row _ _ _ true);simp[aL];done),rfl⟩,ab,trivial⟩⟩,?_⟩
   rintro⟨k,c,done⟩ ⟨hk,hd,hall⟩;simp only at hk hd hall
   conv=>whnf
   refine ae (λh1=>?_) (λh1=>?_) <;> (rw[h1];conv=>whnf)
   . have hlt:k<z.sets.length:=by simp at h1;omega
     obtain⟨s,hs⟩:∃s,z.sets[k]? =some s:=⟨_,ah hlt⟩
     refine⟨aw k,ax s,aG hs,?_⟩
     conv=>whnf
     have hdr:z.sets.drop k=s::z.sets.drop (k+1):=by
      obtain⟨hl,he⟩:=ar.mp hs;rw[List.drop_eq_getElem_cons hlt,he]
     have hrow:k<((done++List.replicate (z.sets.length-k) []).map aL).length:=by simp;omega
     have hrep:List.replicate (z.sets.length-k) ([]:Bs)=List.replicate ((z.sets.length-(k+1))+1) []:=by congr 1;omega
     have hset:∀c',((done++List.replicate (z.sets.length-k) []).map aL).set k (aL c')=((done++[c'])++List.replicate (z.sets.length-(k+1)) []).map aL:=λc' =>by
      rw[hrep, <- Hq done _ c',List.map_set,hd]
     rw[hdr,bh]at hall;have hgo:∀c',jJ (dJ z.apex z.sets) c s.set.name=c' ->(done++[c'])++bh (dJ z.apex z.sets) c' (z.sets.drop (k+1))=cO z:=λc' e=>by
      rw[<- hall,e,List.append_assoc];rfl
     have hf:=qX z.apex s.set.name z.sets [];clear hall hk;obtain⟨q,hq⟩:∃q,dJ z.apex z.sets s.set.name=q:=⟨_,rfl⟩
     rw[hq]at hf;have e0:(⟨#[]⟩:ByteArray).data.toList=[]:=rfl;have hrk:((done++List.replicate (z.sets.length-k) []).map aL)[k]? =some (aL []):=by
      rw[aM,bW (by omega),List.getElem?_replicate,if_pos (by omega)];rfl
     repeat' (first
      |(refine⟨_,_,po _ _,?_⟩;conv=>whnf)
      |(refine⟨(by kernel_rfl:bg _ _=true),?_⟩;conv=>whnf)
      |(refine ae (λh=>?_) (λh=>?_) <;> (rw[h];conv=>whnf))
      |(rcases q with _|_ <;> ((try simp only[dI,if_false,if_true,cD]at hf);rw[hf];conv=>whnf))
      |exact(Bv (b:=c==[]) (by assumption) (by assumption)).elim
      |(refine⟨aw k,hrow,?_⟩;conv=>whnf)
      |(refine⟨_,hrk,?_⟩;conv=>whnf)
      |(refine⟨(k+1,c,done++[c]),⟨hlt,by simp[hd],hgo _ (by(try simp only[e0]at *);simp only[jJ, *, if_true,if_false,aB,beq_self_eq_true];done)⟩,by(show z.sets.length-(k+1)<z.sets.length-k;omega),aj.keep ⟨ab,ab,ab,ab,ab,ab,ab,⟨an (by omega),rfl⟩,trivial⟩ ⟨ab,ab,ab,⟨by(show some (Blk.row _ _ (List.set _ k (aL (c))) true)=some (Blk.row _ _ _ true);rw[hset]),rfl⟩,ab,trivial⟩⟩;done)
      |(refine⟨(k+1,[],done++[[]]),⟨hlt,by simp[hd],hgo _ (by(try simp only[e0]at *);simp only[jJ, *, if_true,if_false,aB,beq_self_eq_true];done)⟩,by(show z.sets.length-(k+1)<z.sets.length-k;omega),aj.keep ⟨ab,ab,ab,ab,ab,ab,ab,⟨an (by omega),rfl⟩,trivial⟩ ⟨ab,ab,ab,⟨by(show some (Blk.row _ _ (List.set _ k (aL ([]))) true)=some (Blk.row _ _ _ true);rw[hset]),rfl⟩,ab,trivial⟩⟩;done)
      |(refine⟨(k+1,s.set.name,done++[s.set.name]),⟨hlt,by simp[hd],hgo _ (by(try simp only[e0]at *);simp only[jJ, *, if_true,if_false,aB,beq_self_eq_true];done)⟩,by(show z.sets.length-(k+1)<z.sets.length-k;omega),aj.keep ⟨ab,ab,ab,ab,ab,ab,ab,⟨an (by omega),rfl⟩,trivial⟩ ⟨ab,ab,ab,⟨by(show some (Blk.row _ _ (List.set _ k (aL (s.set.name))) true)=some (Blk.row _ _ _ true);rw[hset]),rfl⟩,ab,trivial⟩⟩;done)
      |fail)
   . refine af rfl ?_;obtain rfl:k=z.sets.length:=by simp at h1;omega
     simp only[List.drop_length,bh,List.append_nil]at hall;show AV.agg [_,_,AV.d (.slice 1 ((done++List.replicate (z.sets.length-z.sets.length) []).map aL))]=_
     rw[Nat.sub_self,List.replicate_zero,List.append_nil,hall];rfl
end Go.Proofs.YtmaepddmaghpjaaGreatDoor
namespace NP
open NQ Go
theorem sx:iK cR where
 range := fun a b => by unfold cR; repeat' split
                        all_goals omega
 zero := fun a b => by unfold cR; repeat' split
                       all_goals omega
 anti := fun a b => by unfold cR; repeat' split
                       all_goals omega
 lt := fun a b c => by unfold cR; repeat' split
                       all_goals omega
theorem bo:iK aI where
 range:=λa b=>mZ.range _ _
 zero:=λa b=>⟨λh=>sq ((mZ.zero _ _).1 h),λh=>by subst h;exact(mZ.zero _ _).2 rfl⟩
 anti:=λa b=>mZ.anti _ _
 lt:=λa b c=>mZ.lt _ _ _
def lex{α β:Type}(c:α->α->Int)(e:β->β->Int)(p q:α×β):Int:=if c p.1 q.1=0 then e p.2 q.2 else c p.1 q.1
theorem Rl{α β:Type}{c:α->α->Int}{e:β->β->Int}(hc:iK c)(he:iK e):iK (lex c e) where
 range:=λa b=>by unfold lex;split;exact he.range _ _;exact hc.range _ _
 zero:=λa b=>by
  unfold lex;split
  . rename_i h;rw[he.zero,Prod.ext_iff];exact⟨λk=>⟨(hc.zero _ _).1 h,k⟩,λk=>k.2⟩
  . rename_i h;exact⟨λk=>absurd k h,λk=>absurd ((hc.zero _ _).2 (by rw[k])) h⟩
 anti:=λa b=>by
  unfold lex;rw[hc.anti a.1 b.1];by_cases h:c a.1 b.1=0
  . rw[if_pos h,if_pos (by omega),he.anti]
  . rw[if_neg h,if_neg (by omega)]
 lt:=λa b d=>by
  unfold lex;intro h1 h2;by_cases k1:c a.1 b.1=0
  . have e1:=(hc.zero _ _).1 k1;rw[if_pos k1]at h1;rw[e1];by_cases k2:c b.1 d.1=0
    . rw[if_pos k2]at h2 ⊢;exact he.lt _ _ _ h1 h2
    . rw[if_neg k2]at h2 ⊢;exact h2
  . rw[if_neg k1]at h1;by_cases k2:c b.1 d.1=0
    . have e2:=(hc.zero _ _).1 k2;rw[<- e2,if_neg k1];exact h1
    . rw[if_neg k2]at h2;have h3:=hc.lt _ _ _ h1 h2;rw[if_neg (by omega)];exact h3
abbrev cpl:Bs×Int->Bs×Int->Int:=lex aI cR
theorem iO:iK cpl:=Rl bo sx
theorem sy{a b:Bs}(s t:Int)(ha:aq a=true)(hb:aq b=true):qj a s b t=cpl (a,s) (b,t):=by
 unfold qj cpl lex cu;simp only[ha,hb,and_self,if_true,bo.zero]
def Signed.place(s:Signed):Bs×Int:=(s.set.name,s.set.type)
def aR.place(q:aR):Bs×Int:=(q.name,q.type)
def dX:List Signed->Prop
 |[]=>True
 |[_]=>True
 |a::b::t=>cpl a.place b.place<0/\dX (b::t)
theorem Tg{a b c:Bs×Int}(h1:0<=cpl a c)(h2:cpl a b<0):0<=cpl b c:=by
 rcases iO.range b c with h|h|h
 . rcases iO.range a b with k|k|k
   . have:=iO.lt a b c k h;omega
   . omega
   . omega
 . omega
 . omega
theorem BB{q:Bs×Int}:∀{l:List Signed} {x:Signed},dX (x::l)->0<=cpl x.place q-> ∀s∈l,0<=cpl s.place q
 |[],_,_,_,s,hs=>by cases hs
 |y::t,x,h,hx,s,hs=>by
  have hy:=Tg hx h.1;rcases List.mem_cons.1 hs with rfl|hs
  . exact hy
  . exact BB h.2 hy s hs
theorem lX:∀{l:List Signed} {x:Signed},dX (x::l)-> ∀s∈l,cpl x.place s.place<0
 |[],_,_,s,hs=>by cases hs
 |y::t,x,h,s,hs=>by
  rcases List.mem_cons.1 hs with rfl|hs
  . exact h.1
  . have h1:=lX h.2 s hs;have h2:=h.1;rcases iO.range x.place y.place with a|a|a <;> rcases iO.range y.place s.place with b|b|b <;> first|omega|skip
    have:=iO.lt _ _ _ a b;omega
theorem dX.tail{x:Signed}:∀{l:List Signed},dX (x::l)->dX l
 |[],_=>trivial
 |_::_,h=>h.2
def posOf(l:List Signed)(q:aR):Nat:=(l.takeWhile λs=>decide (cpl s.place q.place<0)).length
def is(q:aR)(s:Signed):Bool:=(s.set.name==q.name)&&(s.set.type==q.type)
def cJ(l:List Signed)(q:aR):Bool:=l.any (is q)
theorem lu(q:aR)(s:Signed):is q s=true ↔ s.place=q.place:=by
 simp[is,Signed.place,aR.place]
theorem Ew{s:Signed}{q:aR}(hs:aq s.set.name=true)(hq:aq q.name=true):plc s q=cpl s.place q.place:=sy _ _ hs hq
theorem ya(q:aR)(hq:aq q.name=true):∀(l:List Signed),dX l->(∀s∈l,aq s.set.name=true)->Split l q (posOf l q)/\foundAt l q (posOf l q)=cJ l q
 |[],_,_=>⟨⟨Nat.le_refl _,λi s h=>(by cases h),λi s h=>(by cases h)⟩,rfl⟩
 |x::l,h,hv=>by
  have hx:=Ew (hv x (List.mem_cons_self ..)) hq;by_cases hlt:cpl x.place q.place<0
  . have hp:posOf (x::l) q=posOf l q+1:=by simp[posOf,List.takeWhile_cons,hlt]
    obtain⟨⟨h1,h2,h3⟩,h4⟩:=ya q hq l h.tail λs hs=>hv s (aK _ hs)
    rw[hp];refine⟨⟨by simp;exact h1,?_,?_⟩,?_⟩
    . intro i s hs hi;cases i with
      |zero=>cases hs;omega
      |succ i=>exact h2 i s hs (by omega)
    . intro i s hs hi;cases i with
      |zero=>omega
      |succ i=>exact h3 i s hs (by omega)
    . have hne:is q x=false:=by
       cases hi:is q x with
       |false=>rfl
       |true=>rw[(lu q x).1 hi,(iO.zero _ _).2 rfl]at hlt;omega
      unfold foundAt at h4 ⊢;rw[List.getElem?_cons_succ,h4];simp[cJ,hne]
  . have hp:posOf (x::l) q=0:=by simp[posOf,List.takeWhile_cons,hlt]
    have hge:0<=cpl x.place q.place:=by omega
    rw[hp];refine⟨⟨by omega,λi s _ hi=>by omega,?_⟩,?_⟩
    . intro i s hs _;have hm:=ao hs;rw[Ew (hv s hm) hq];rcases List.mem_cons.1 hm with rfl|hm
      . exact hge
      . exact BB h hge s hm
    . show(plc x q==0)=_
      rw[hx];have hb:(cpl x.place q.place==0)=is q x:=by
       rw[Bool.eq_iff_iff,beq_iff_eq,iO.zero,lu]
      rw[hb];cases hi:is q x with
      |true=>simp[cJ,hi]
      |false =>
       have:cJ l q=false:=by
        simp only[cJ,List.any_eq_false];intro s hs hs';have h1:=lX h s hs;rw[(lu q s).1 hs']at h1;omega
       simp only[cJ,List.any_cons,hi,dF]at this ⊢;exact this.symm
structure Ordered(z:aF):Prop where
 apex:aq z.apex=true
 tame:ff z.apex=false
 few:z.sets.length<=20000
 set:∀s∈z.sets,dL s.set=true
 under:∀s∈z.sets,(bq s.set.name z.apex).1=true
 rising:dX z.sets
theorem js{s:gx}(h:dL s=true):aq s.name=true:=by
 unfold dL at h;simp only[ay,Bool.not_eq_true',Bool.or_eq_false_iff,Bool.not_eq_false']at h;exact h.1.1.1.1.1
theorem BC:∀(l:List Signed),(∀s∈l,aq s.set.name=true)->(∀i p s,l[i]? =some p->l[i+1]? =some s->qj p.set.name p.set.type s.set.name s.set.type<0)->dX l
 |[],_,_=>trivial
 |[_],_,_=>trivial
 | a :: b :: t, hv, h => ⟨by
     have:=h 0 a b rfl rfl
     rwa [sy _ _ (hv a (by simp)) (hv b (by simp))]at this,BC (b::t) (λs hs=>hv s (aK _ hs)) λi p s hp hs=>h (i+1) p s hp hs⟩
theorem Ordered.of{z:aF}(h:ordered z=true):Ordered z:=by
 unfold ordered at h;simp only[ay,Bool.not_eq_true',Bool.or_eq_false_iff,Bool.not_eq_false',decide_eq_false_iff_not,av,List.mem_range]at h;obtain⟨⟨⟨h1,h2⟩,h3⟩,h4⟩:=h;have hat:∀(i:Nat) s p,z.sets[i]? =some s->z.sets[i-1]? =some p->lv z.apex i s p=false:=by
  intro i s p hs hp;have:=h4 i (ar.1 hs).1;rw[pP hs hp]at this;simpa using this
 have hset:∀s∈z.sets,dL s.set=true/\(bq s.set.name z.apex).1=true:=by
  intro s hs;obtain⟨i,hi⟩:=cj hs;obtain⟨hl,_⟩:=ar.1 hi;obtain⟨p,hp⟩:∃p,z.sets[i-1]? =some p:=⟨_,ah (by omega)⟩
  have:=hat i s p hi hp;unfold lv at this;simp only[Bool.or_eq_false_iff,Bool.not_eq_false']at this;exact⟨this.1.1,this.1.2⟩
 refine⟨h1,h2,by omega,λs hs=>(hset s hs).1,λs hs=>(hset s hs).2,BC _ (λs hs=>js (hset s hs).1) ?_⟩;intro i p s hp hs;have:=hat (i+1) s p hs hp;unfold lv at this;simp only[Bool.or_eq_false_iff,Bool.not_eq_false',Bool.and_eq_false_iff,decide_eq_false_iff_not,beq_iff_eq]at this;rcases this.2 with k|k
 . omega
 . omega
theorem Ordered.name{z:aF}(h:Ordered z):∀s∈z.sets,aq s.set.name=true:=λs hs=>js (h.set s hs)
def aW(z:aF):Bool:=ordered z&&iu (λt=>cJ z.sets ⟨z.apex,t⟩) z&&(aliases z&&ny z (cO z)&&oU z (cO z)&&nC z)
def bK(q:aR):Bool:=aq q.name&&decide (q.type>=1)&&decide (q.type<=8)
end NP
namespace Go.Proofs.YtmaepddmaghpjaaGreatDoor
open NQ Go NP Go.RowKit
theorem vH{z:aF}(h:Ordered z)(q:aR)(hq:aq q.name=true) :
 NQ.Fn cx 40 [.agg (aT z),.agg (cL q)] (.tuple [.d (.int .i64 (posOf z.sets q)),.d (.bool (cJ z.sets q))]) []:=by
 obtain⟨h1,h2⟩:=ya q hq z.sets h.rising h.name;have:=QN z q (posOf z.sets q) (by have:=h.few;omega) h1
 rwa [h2]at this
theorem qN(z:aF):NQ.Fn cx 39 [.agg (aT z)] (.d (.bool (aW z))) []:=by
 refine aA aO mixed Tryz.func39 (by kernel_rfl) rfl (ag rfl) ?_;conv=>whnf
 (refine⟨_,_,JA z,?_⟩;conv=>whnf)
 (refine ae (λh=>?_) (λh=>?_) <;> (rw[h];conv=>whnf))
 . (refine af rfl ?_;show AV.d (D.bool false)=_;(try simp only[Bool.not_eq_true',Bool.not_eq_false',ak]at *);simp only[aW, *, if_true,if_false,aB];done)
 have ho:Ordered z:=Ordered.of (by simpa using h);have hn:z.sets.length<=100000:=by have:=ho.few;omega
 have hb:(cO z).length=z.sets.length:=tZ _ _ _
 (refine⟨_,_,CQ z hn _ _ (λt=>vH ho ⟨z.apex,t⟩ ho.apex),?_⟩;conv=>whnf)
 (refine ae (λh=>?_) (λh=>?_) <;> (rw[h];conv=>whnf))
 . (refine af rfl ?_;show AV.d (D.bool false)=_;(try simp only[Bool.not_eq_true',Bool.not_eq_false',ak]at *);simp only[aW, *, if_true,if_false,aB];done)
 (refine⟨_,_,Sv z hn,?_⟩;conv=>whnf)
 have hv:aW z=(aliases z&&ny z (cO z)&&oU z (cO z)&&nC z):=by
  simp only[Bool.not_eq_false']at *;simp only[aW, *, if_true,if_false,aB]
 (refine⟨_,_,zS z _ hn,?_⟩;conv=>whnf)
 repeat' (first|(refine⟨_,_,FC z _ hn hb,?_⟩;conv=>whnf)|(refine⟨_,_,Gl z _ hn hb,?_⟩;conv=>whnf)|(refine⟨_,_,DA z _ hn,?_⟩;conv=>whnf)|(refine⟨(by kernel_rfl:bg _ _=true),?_⟩;conv=>whnf)|(refine ae (λh=>?_) (λh=>?_) <;> (rw[h];conv=>whnf))|fail)
 all_goals first
  |(refine af rfl ?_;show AV.d (D.bool false)=_;rw[hv];simp only[*, if_true,if_false,aB];done)
  |(refine af rfl ?_;show AV.d (D.bool (nC z))=_;rw[hv];simp only[*, if_true,if_false,aB];done)
  |fail
theorem Mg(q:aR):NQ.Fn cx 38 [.agg (cL q)] (.d (.bool (bK q))) []:=by
 refine aA aO mixed Tryz.func38 (by kernel_rfl) rfl (ag rfl) ?_;conv=>whnf
 repeat' (first|(refine⟨_,_,jc _,?_⟩;conv=>whnf)|(refine⟨(by kernel_rfl:bg _ _=true),?_⟩;conv=>whnf)|(refine ae (λh=>?_) (λh=>?_) <;> (rw[h];conv=>whnf))|fail)
 all_goals first
  |(refine af rfl ?_;show AV.d (D.bool false)=_;(try simp only[ak]at *);simp only[bK, *, if_true,if_false,aB];done)
  |(refine af rfl ?_;show AV.d (D.bool _)=_;simp only[bK, *, if_true,if_false,aB];done)
  |fail
end Go.Proofs.YtmaepddmaghpjaaGreatDoor
namespace NP
open NQ Go
theorem wD{s:Bs}(h:aq s=true):bc (bu s)=(bc s).tail:=rn (zd (List.tail_suffix _) (oh h))
theorem fO{s:Bs}(h:aq s=true):aq (bu s)=true:=Fc (List.tail_suffix _) h
theorem kD{n z:Bs}(hn:aq n=true)(h:aD n z=true)(hne:n≠z):n≠[46]/\aD (bu n) z=true/\(bc (bu n)).length+1=(bc n).length:=by
 unfold aD at h ⊢;rw[wD hn];have hs:=List.isSuffixOf_iff_suffix.1 h;cases hl:bc n with
 |nil =>
  rw[hl]at hs;have:bc z=[]:=List.suffix_nil.1 hs;exact absurd (xJ (by rw[hl,this])) hne
 |cons x t =>
  rw[hl]at hs;refine⟨λe=>by rw[e]at hl;simp[bc]at hl,?_,by simp⟩;rcases List.suffix_cons_iff.1 hs with k|k
  . exact absurd (xJ (by rw[hl,k])) hne
  . exact List.isSuffixOf_iff_suffix.2 k
theorem On{l:List Signed}{q:aR}{c:Nat}(h:foundAt l q c=true):∃s,l[c]? =some s/\plc s q=0:=by
 unfold foundAt at h;split at h
 . rename_i s hs;exact⟨s,hs,by simpa using h⟩
 . cases h
theorem sI{z:aF}(ho:Ordered z){q:aR}(hq:aq q.name=true)(h:cJ z.sets q=true):∃s,z.sets[posOf z.sets q]? =some s/\s∈z.sets/\s.place=q.place:=by
 obtain⟨_,h2⟩:=ya q hq z.sets ho.rising ho.name;rw[h]at h2;obtain⟨s,hs,hp⟩:=On h2;have hm:=ao hs;exact⟨s,hs,hm,(iO.zero _ _).1 (by rw[<- Ew (ho.name s hm) hq];exact hp)⟩
theorem bA{z:aF}(h:aW z=true):Ordered z:=by
 unfold aW at h;simp only[ay]at h;exact Ordered.of h.1.1
theorem qC{s:gx}(h:dL s=true):∃d,s.data[0]? =some d:=by
 unfold dL at h;simp only[ay,Bool.not_eq_true',Bool.or_eq_false_iff,Bool.not_eq_false']at h;have h1:=h.1.1.2;unfold within at h1;simp at h1;exact⟨_,ah (by omega)⟩
def gj(z:aF):Int:=match z.sets[posOf z.sets ⟨z.apex,4⟩]? with|some s=>(match s.set.data[0]? with|some d=>d.n|none=>0)|none=>0
def dV(z:aF):Int×Int:=if (!aW z)=true then(0,1)else(gj z,0)
def lC(z:aF):Nat->Bs->Option Bs
 |0,_=>none
 |f+1,n=>if n=z.apex then none else if cJ z.sets ⟨n,2⟩=true then some n else lC z f (bu n)
def qZ(z:aF)(s:Bs):Option Bs:=lC z ((bc s).length+1) s
def eP(z:aF)(s:Bs):Bs×Bool×Int :=
 if (!aq s|| !aW z)=true then([],false,1)else if (!(bq s z.apex).1)=true then([],false,20)
 else match qZ z s with|some c=>(c,true,0)|none=>([],false,0)
end NP
namespace Go.Proofs.YtmaepddmaghpjaaGreatDoor
open NQ Go NP Go.RowKit
theorem BE(z:aF):NQ.Fn cx 174 [.agg (aT z)] (.tuple [.d (.int .i64 (dV z).1),.d (.int .i64 (dV z).2)]) []:=by
 refine aA aO mixed Tryz.func174 (by kernel_rfl) rfl (ag rfl) ?_;conv=>whnf
 (refine⟨_,_,qN z,?_⟩;conv=>whnf)
 (refine ae (λh=>?_) (λh=>?_) <;> (rw[h];conv=>whnf))
 . refine af rfl ?_;rw[dV,if_pos h];rfl
 have hv:aW z=true:=by simpa using h
 have ho:=bA hv
 (refine⟨_,_,vH ho ⟨z.apex,4⟩ ho.apex,?_⟩;conv=>whnf)
 have hh:cJ z.sets ⟨z.apex,4⟩=true:=by
  unfold aW iu at hv;simp only[ay]at hv;exact hv.1.2.1.1
 obtain⟨s,hs,hm,_⟩:=sI ho (q:=⟨z.apex,4⟩) ho.apex hh;obtain⟨d,hd⟩:=qC (ho.set s hm);refine⟨aw _,ax s,aG hs,?_⟩
 conv=>whnf
 refine⟨by decide,bz d,aG (k:=0) hd,?_⟩
 conv=>whnf
 refine af rfl ?_;rw[dV,if_neg (by simp[hv])];simp only[gj,hs,hd];rfl
theorem La(z:aF)(s:Bs):NQ.Fn cx 10 [.agg (aT z),.str s] (.tuple [.d (.str (eP z s).1),.d (.bool (eP z s).2.1),.d (.int .i64 (eP z s).2.2)]) []:=by
 refine aA aO mixed Tryz.func10 (by kernel_rfl) rfl (ag rfl) ?_;conv=>whnf
 (refine⟨_,_,jc s,?_⟩;conv=>whnf)
 (refine ae (λh=>?_) (λh=>?_) <;> (rw[h];conv=>whnf))
 . refine af rfl ?_;rw[eP,h];rfl
 (refine⟨_,_,qN z,?_⟩;conv=>whnf)
 (refine ae (λh=>?_) (λh=>?_) <;> (rw[h];conv=>whnf))
 . refine af rfl ?_;rw[eP,if_pos (by simp only[*, if_true,if_false,aB])];rfl
 have hvs:aq s=true:=by simp only[Bool.not_eq_false']at *; assumption
 have hv:aW z=true:=by simp only[Bool.not_eq_false']at *; assumption
 have ho:=bA hv;have h0:¬(!aq s|| !aW z)=true:=by simp[hvs,hv]
 (refine⟨_,_,po s z.apex,?_⟩;conv=>whnf)
 (refine ae (λh=>?_) (λh=>?_) <;> (rw[h];conv=>whnf))
 . refine af rfl ?_;rw[eP,if_neg h0,if_pos (by assumption)];rfl
 have hu:bq s z.apex=(true,0):=by
  have h3:(bq s z.apex).1=true:=by simp only[Bool.not_eq_false']at *; assumption
  unfold bq at h3 ⊢;rw[if_pos ⟨hvs,ho.apex⟩]at h3 ⊢;rw[show aD s z.apex=true from h3]
 have hR:eP z s=(match qZ z s with|some c=>(c,true,0)|none=>([],false,0)):=by
  rw[eP,if_neg h0,hu];rfl
 have hun:aD s z.apex=true:=by
  unfold bq at hu;rw[if_pos ⟨hvs,ho.apex⟩]at hu;exact(Prod.mk.inj hu).1
 refine⟨Bs,λn=>⟨[(2,.ptr 2 0),(9,.ptr 9 0),(10,.d (.str n))],[(2,.box ((aT z).map .d)),(9,.box ((aT z).map .d))]⟩,
  λn=>aq n=true/\aD n z.apex=true/\lC z ((bc n).length+1) n=qZ z s,λn=>(bc n).length,
  ⟨s,⟨hvs,hun,rfl⟩,aj.keep ⟨ab,ab,ab,trivial⟩ ⟨ab,ab,trivial⟩⟩,λn ⟨hvn,hn,hc⟩=>?_⟩
 conv=>whnf
 refine ae (λh1=>?_) (λh1=>?_) <;> (rw[h1];conv=>whnf)
 . have hne:n≠z.apex:=by simpa using h1
   obtain⟨k1,k2,k3⟩:=kD hvn hn hne;rw[lC,if_neg hne]at hc
   (refine⟨_,_,vH ho ⟨n,2⟩ hvn,?_⟩;conv=>whnf)
   refine ae (λh2=>?_) (λh2=>?_) <;> (rw[h2];conv=>whnf)
   . refine af rfl ?_;rw[if_pos h2]at hc;rw[hR, <- hc];rfl
   . rw[if_neg (by rw[h2];exact Bool.false_ne_true), <- k3]at hc;have hp:dM n=(bu n,0):=by unfold dM;rw[if_pos hvn,if_neg k1]
     have hpf:=nM n;rw[hp]at hpf
     (refine⟨_,_,hpf,?_⟩;conv=>whnf)
     exact⟨bu n,⟨fO hvn,k2,hc⟩,by(show(bc (bu n)).length<(bc n).length;omega),aj.keep ⟨ab,ab,ab,trivial⟩ ⟨ab,ab,trivial⟩⟩
 . have hne:n=z.apex:=by simpa using h1
   rw[lC,if_pos hne]at hc;refine af rfl ?_;rw[hR, <- hc];rfl
end Go.Proofs.YtmaepddmaghpjaaGreatDoor
namespace NP
open NQ Go
def nD(l:List Bs):Bs:=(l[l.length-1]?).getD []
theorem vL{acc:List Bs}(h:(((acc.map aL).length:Int)==0)=false):acc.length≠0:=by simp at h;simpa using h
theorem OL{acc:List Bs}(h:(((acc.map aL).length:Int)==0)=false):(acc.map aL)[((acc.length-1:Nat):Int).toNat]? =some (aL (nD acc)):=by
 have h' :=vL h;rw[Int.toNat_natCast,aM,nD,ah (by omega)];rfl
theorem LQ{acc:List Bs}(hl:acc.length<=100000)(h:(((acc.map aL).length:Int)==0)=false):IntKind.i64.wrap (((acc.map aL).length:Int)-1)=((acc.length-1:Nat):Int):=by
 have h' :=vL h;rw[ak,wrap_i64 (by omega) (by omega)];omega
theorem Re{acc:List Bs}(h:(((acc.map aL).length:Int)==0)=false):((acc.length-1:Nat):Int).toNat<(acc.map aL).length:=by
 have h' :=vL h;simp;omega
end NP
namespace Go.Proofs.YtmaepddmaghpjaaGreatDoor
open NQ Go NP Go.RowKit
end Go.Proofs.YtmaepddmaghpjaaGreatDoor
namespace NP
open NQ Go
def sh(c:Int):Bool:=((decide (c<97)||decide (c>122))&&(decide (c<48)||decide (c>57)))&&(c != 32)
theorem BP(c:UInt8):sh (c.toNat:Int)= !eV c:=by
 have:∀n:Fin 256,sh ((UInt8.ofNat n.val).toNat:Int)= !eV (UInt8.ofNat n.val):=by decide +kernel
 have h:=this ⟨c.toNat,c.toNat_lt⟩;simpa using h
def oX(s:Bs)(i:Nat):Bool:=match s[i]? with|some c=> !sh (c.toNat:Int)|none=>false
theorem RL(s:Bs):(List.range s.length).all (oX s)=s.all eV:=by
 rw[Bool.eq_iff_iff,av,av];constructor
 . intro h x hx;obtain⟨j,hj,rfl⟩:=List.getElem_of_mem hx;have:=h j (List.mem_range.2 hj);simp only[oX,ah hj,BP,oo]at this;exact this
 . intro h i hi;have hi:=List.mem_range.1 hi;simp only[oX,ah hi,BP,oo];exact h _ (List.getElem_mem hi)
def vx(s:Bs)(a b:UInt8):Bool:= !(decide ((s.length:Int)<1)||decide ((s.length:Int)>40)||((a.toNat:Int)==32)||((b.toNat:Int)==32))&&(List.range s.length).all (oX s)
theorem Ki{s:Bs}(h:¬s.length=0)(a b:UInt8)(ha:s[0]? =some a)(hb:s[s.length-1]? =some b):vx s a b=bV s:=by
 have e1:((a.toNat:Int)==32)=(a==32):=by rw[Bool.eq_iff_iff,beq_iff_eq,beq_iff_eq, <- UInt8.toNat_inj];simp;omega
 have e2:((b.toNat:Int)==32)=(b==32):=by rw[Bool.eq_iff_iff,beq_iff_eq,beq_iff_eq, <- UInt8.toNat_inj];simp;omega
 have h1:s.head? =some a:=by rw[List.head?_eq_getElem?,ha]
 have h2:s.getLast? =some b:=by rw[List.getLast?_eq_getElem?,hb]
 unfold vx bV;rw[e1,e2,h1,h2,RL];rw[Bool.eq_iff_iff];simp
 intros;omega
end NP
namespace Go.Proofs.YtmaepddmaghpjaaGreatDoor
open NQ Go NP Go.RowKit
theorem yi(s:Bs):NQ.Fn cx 141 [.str s] (.d (.bool (ff s))) []:=by
 refine aA aO mixed Tryz.func141 (by kernel_rfl) rfl (ag rfl) ?_;conv=>whnf
 (refine ae (λh=>?_) (λh=>?_) <;> (rw[h];conv=>whnf))
 . cases s with
   |nil=>simp at h
   |cons c t =>
    refine⟨by decide,c,rfl,?_⟩
    conv=>whnf
    refine af rfl ?_;show AV.d (D.bool ((c.toNat:Int)==42))=_
    rw[ff,List.head?_cons];have:((c.toNat:Int)==42)=(c==42):=by rw[Bool.eq_iff_iff,beq_iff_eq,beq_iff_eq, <- UInt8.toNat_inj];simp;omega
    rw[this];rfl
 . refine af rfl ?_;cases s with
   |nil=>rfl
   |cons c t=>simp at h
theorem wY(n a b:Int):NQ.Fn cx 139 [.int .i64 n,.int .i64 a,.int .i64 b] (.d (.bool (within n a b))) []:=by
 refine aA aO mixed Tryz.func139 (by kernel_rfl) rfl (ag rfl) ?_;conv=>whnf
 (refine ae (λh=>?_) (λh=>?_) <;> (rw[h];conv=>whnf))
 . refine af rfl ?_;show AV.d (D.bool _)=_;simp only[within,ge_iff_le]at *; rw[h];rfl
 . refine af rfl ?_;show AV.d (D.bool _)=_;simp only[within,ge_iff_le]at *; rw[h];rfl
theorem Gm(n:Int):NQ.Fn cx 140 [.int .i64 n] (.d (.bool ((n==3)||(n==4)))) []:=by
 refine aA aO mixed Tryz.func140 (by kernel_rfl) rfl (ag rfl) ?_;conv=>whnf
 (refine ae (λh=>?_) (λh=>?_) <;> (rw[h];conv=>whnf)) <;> exact af rfl rfl
theorem MH(s:Bs):NQ.Fn cx 192 [.str s] (.d (.bool (bV s))) []:=by
 refine aA aO mixed Tryz.func192 (by kernel_rfl) rfl (ag rfl) ?_;conv=>whnf
 (refine ae (λh=>?_) (λh=>?_) <;> (rw[h];conv=>whnf))
 . refine af rfl ?_;show AV.d (D.bool false)=_
   have:s.length=0:=by simp at h;omega
   have:s=[]:=List.length_eq_zero_iff.1 this;subst this;rfl
 have h0:¬s.length=0:=by simp at h;omega
 obtain⟨a,ha⟩:∃a,s[0]? =some a:=⟨_,ah (by omega)⟩
 obtain⟨b,hb⟩:∃b,s[s.length-1]? =some b:=⟨_,ah (by omega)⟩
 rw[<- Ki h0 a b ha hb]
 (refine ae (λh=>?_) (λh=>?_) <;> (rw[h];conv=>whnf))
 . (refine af rfl ?_;show AV.d (D.bool false)=_;(try simp only[ak]at *);simp only[vx, *, if_true,if_false,aB];done)
 have hl:s.length<=40:=by simp at *; omega
 have hw:IntKind.i64.wrap ((s.length:Int)-1)=((s.length-1:Nat):Int):=by rw[wrap_i64 (by omega) (by omega)];omega
 refine⟨by decide,a,ha,?_⟩
 conv=>whnf
 (refine ae (λh=>?_) (λh=>?_) <;> (rw[h];conv=>whnf))
 . (refine af rfl ?_;show AV.d (D.bool false)=_;(try simp only[ak]at *);simp only[vx, *, if_true,if_false,aB];done)
 rw[hw];refine⟨aw _,b,by(rw[Int.toNat_natCast];exact hb),?_⟩
 conv=>whnf
 (refine ae (λh=>?_) (λh=>?_) <;> (rw[h];conv=>whnf))
 . (refine af rfl ?_;show AV.d (D.bool false)=_;(try simp only[ak]at *);simp only[vx, *, if_true,if_false,aB];done)
 have hyes:vx s a b=(List.range s.length).all (oX s):=by simp only[vx, *, if_true,if_false,aB]
 refine⟨Nat,λk=>⟨[(0,.d (.str s)),(3,.d (.int .i64 (s.length:Int))),(4,.d (.int .i64 k))],[]⟩,λk=>k<=s.length/\(List.range k).all (oX s)=true,λk=>s.length-k,⟨0,⟨by omega,rfl⟩,aj.keep ⟨ab,ab,ab,trivial⟩ trivial⟩,λk ⟨hk,hall⟩=>?_⟩;(conv=>whnf);refine ae (λh1=>?_) (λh1=>?_) <;> (rw[h1];conv=>whnf)
 . have hlt:k<s.length:=by simp at h1;omega
   obtain⟨c,hc⟩:∃c,s[k]? =some c:=⟨_,ah hlt⟩
   have hat:oX s k= !sh (c.toNat:Int):=by simp only[oX,hc]
   have hno:oX s k=false->vx s a b=false:=λhh=>by rw[hyes,bF hlt hh]
   refine⟨aw k,c,by(rw[Int.toNat_natCast];exact hc),?_⟩
   conv=>whnf
   repeat' (first
    |(refine af rfl ?_;show AV.d (D.bool false)=_;(try simp only[ak]at *);rw[hno (by rw[hat];simp only[sh, *, if_true,if_false,aB])];done)
    |(refine⟨k+1,⟨by omega,?_⟩,by(show s.length-(k+1)<s.length-k;omega),aj.keep ⟨ab,ab,⟨an (by omega),rfl⟩,trivial⟩ trivial⟩;rw[bQ,hall,hat];((try simp only[ak]at *);simp only[sh, *, if_true,if_false,aB];done))
    |(refine ae (λh=>?_) (λh=>?_) <;> (rw[h];conv=>whnf))
    |fail)
 . (refine af rfl ?_;obtain rfl:k=s.length:=(by simp at h1;omega);show AV.d (D.bool true)=_;rw[hyes,hall])
theorem IC(t:Int)(d:Datum):NQ.Fn cx 142 [.int .i64 t,.agg (bz d)] (.d (.bool (within t 1 8&&dW (ep t) d))) []:=by
 refine aA aO mixed Tryz.func142 (by kernel_rfl) rfl (ag rfl) ?_;conv=>whnf
 repeat' (first|(refine⟨_,_,wY _ _ _,?_⟩;conv=>whnf)|(refine⟨_,_,yi _,?_⟩;conv=>whnf)|(refine⟨_,_,qf _,?_⟩;conv=>whnf)|(refine⟨_,_,MH _,?_⟩;conv=>whnf)|(refine ae (λh=>?_) (λh=>?_) <;> (rw[h];conv=>whnf))|fail)
 all_goals
  refine af rfl ?_
  first
   |(simp_all [D.cQ,ep,dW,iZ];done)
   |(simp_all [D.cQ,ep,dW,iZ,within];done)
   |(simp_all [D.cQ,ep,dW,iZ,within];(try rw[Bool.eq_iff_iff]);(try simp_all);(try omega))
   |skip
theorem LS(a b:Datum):NQ.Fn cx 143 [.agg (bz a),.agg (bz b)] (.d (.bool (decide (oZ a b<0)))) []:=by
 refine aA aO mixed Tryz.func143 (by kernel_rfl) rfl (ag rfl) ?_;conv=>whnf
 (refine ae (λh=>?_) (λh=>?_) <;> (rw[h];conv=>whnf))
 . have hz:¬Go.Lib.compareBytes a.text b.text=0:=λe=>by
    rw[(bO.zero _ _).1 e]at h;simp at h
   refine af rfl ?_;rw[oZ,if_neg hz];show AV.d (D.bool (Op.bytesLess a.text b.text))=_
   rw[ou]
   congr 2;rw[decide_eq_decide]
   rcases bO.range a.text b.text with e|e|e <;> omega
 . have hz:Go.Lib.compareBytes a.text b.text=0:=(bO.zero _ _).2 (by simpa using h);rw[oZ,if_pos hz]
   (refine ae (λh=>?_) (λh=>?_) <;> (rw[h];conv=>whnf))
   . have hz:¬cR a.n b.n=0:=λe=>by
      rw[(sx.zero _ _).1 e]at h;simp at h
     refine af rfl ?_;rw[if_neg hz];show AV.d (D.bool (decide (a.n<b.n)))=_
     congr 2;rw[decide_eq_decide];unfold cR;split <;> (try split) <;> omega
   . have hz:cR a.n b.n=0:=(sx.zero _ _).2 (by simpa using h);refine af rfl ?_;rw[if_pos hz];show AV.d (D.bool (decide (a.m<b.m)))=_
     congr 2;rw[decide_eq_decide];unfold cR;split <;> (try split) <;> omega
theorem Jz(a b:gx)(ha:aq a.name=true)(hb:aq b.name=true):NQ.Fn cx 144 [.agg (mG a),.agg (mG b)] (.d (.int .i64 (cpl (a.name,a.type) (b.name,b.type)))) []:=by
 refine aA aO mixed Tryz.func144 (by kernel_rfl) rfl (ag rfl) ?_;conv=>whnf
 (refine⟨_,_,Fp _ _ ha hb,?_⟩;conv=>whnf)
 repeat' (first|(refine ae (λh=>?_) (λh=>?_) <;> (rw[h];conv=>whnf))|fail)
 all_goals
  refine af rfl ?_
  simp_all [D.cQ,cpl,lex,cR]
 rw[if_neg (by omega),if_neg (by omega)]
end Go.Proofs.YtmaepddmaghpjaaGreatDoor
namespace NP
open NQ Go
def vT(t:Int)(i:Nat)(d p:Datum):Bool:= !(within t 1 8&&dW (ep t) d)||(decide ((i:Int)>0)&& !decide (oZ p d<0))
def rB(t:Int)(l:List Datum)(i:Nat):Bool:=match l[i]?, l[i-1]? with|some d,some p=> !vT t i d p|_,_=>false
def xV(s:gx):Bool :=
 !((!aq s.name|| !within s.type 1 8|| !within s.life 0 100000|| !within s.data.length 1 8||(((s.type==3)||(s.type==4))&&decide ((s.data.length:Int)>1))) ||
  (ff s.name&&(s.type != 1)&&(s.type != 5)&&(s.type != 8)))&&(List.range s.data.length).all (rB s.type s.data)
theorem RC(s:gx):xV s=dL s:=by
 by_cases ht:within s.type 1 8=true
 . have h8:s.type=1\/s.type=2\/s.type=3\/s.type=4\/s.type=5\/s.type=6\/s.type=7\/s.type=8:=by
    unfold within at ht;simp at ht;omega
   have hat:∀i,rB s.type s.data i=nA (ep s.type) s.data i:=by
    intro i;unfold rB nA;cases s.data[i]? with
    |none=>rfl
    |some d =>
     cases s.data[i-1]? with
     |none=>rfl
     |some p =>
      show(!vT s.type i d p)= !mu (ep s.type) i d p
      unfold vT mu;rw[ht,du]
      congr 3
      rw[Bool.eq_iff_iff];simp
   have hall:(List.range s.data.length).all (rB s.type s.data)=(List.range s.data.length).all (nA (ep s.type) s.data):=by
    rw[show rB s.type s.data=nA (ep s.type) s.data from funext hat]
   unfold xV dL;rw[hall,ht];cases hw:within (s.data.length:Int) 1 8
   . simp
   have hl:1<=s.data.length:=by unfold within at hw;simp at hw;omega
   congr 1
   have e1:((s.data.length:Int) != 1)=decide ((s.data.length:Int)>1):=by
    rw[Bool.eq_iff_iff];simp;omega
   rw[e1];rcases h8 with h|h|h|h|h|h|h|h <;> simp[h,ep] <;> cases aq s.name <;> cases within s.life 0 100000 <;> cases ff s.name <;> simp
 . have ht:within s.type 1 8=false:=by simpa using ht
   simp[xV,dL,ht]
end NP
namespace Go.Proofs.YtmaepddmaghpjaaGreatDoor
open NQ Go NP Go.RowKit
theorem EO(s:gx):NQ.Fn cx 100 [.agg (mG s)] (.d (.bool (dL s))) []:=by
 rw[<- RC];refine aA aO mixed Tryz.func100 (by kernel_rfl) rfl (ag rfl) ?_;conv=>whnf
 repeat' (first|(refine af rfl ?_;show AV.d (D.bool false)=_;(try simp only[ak]at *);simp only[xV, *, if_true,if_false,aB];done)|(refine⟨_,_,qf _,?_⟩;conv=>whnf)|(refine⟨_,_,wY _ _ _,?_⟩;conv=>whnf)|(refine⟨_,_,Gm _,?_⟩;conv=>whnf)|(refine⟨_,_,yi _,?_⟩;conv=>whnf)|(refine ae (λh=>?_) (λh=>?_) <;> (rw[h];conv=>whnf))|fail)
 all_goals
  have hlen:s.data.length<=8:=by
   have hh:= ‹(!within (↑(List.map bz s.data).length) 1 8)=false›;unfold within at hh;simp at hh;omega
  have hyes:xV s=(List.range s.data.length).all (rB s.type s.data):=by
   simp only[ak]at *;simp only[xV, *, if_true,if_false,aB]
  refine⟨Nat,λk=>⟨[(1,.ptr 1 0),(3,.d (.int .i64 ((s.data.map bz).length:Int))),(4,.d (.int .i64 k))],[(1,.box ((mG s).map .d))]⟩,λk=>k<=s.data.length/\(List.range k).all (rB s.type s.data)=true,λk=>s.data.length-k,⟨0,⟨by omega,rfl⟩,aj.keep ⟨ab,ab,ab,trivial⟩ ⟨ab,trivial⟩⟩,λk ⟨hk,hall⟩=>?_⟩;(conv=>whnf);refine ae (λh1=>?_) (λh1=>?_) <;> (rw[h1];conv=>whnf)
  . have hlt:k<s.data.length:=by simp at h1;omega
    obtain⟨d,hd⟩:∃d,s.data[k]? =some d:=⟨_,ah hlt⟩
    obtain⟨p,hp⟩:∃p,s.data[k-1]? =some p:=⟨_,ah (by omega)⟩
    have hat:rB s.type s.data k= !vT s.type k d p:=by simp only[rB,hd,hp]
    have hno:rB s.type s.data k=false->xV s=false:=λhh=>by rw[hyes,bF hlt hh]
    repeat' (first
     |(refine⟨(by kernel_rfl:bg _ _=true),?_⟩;conv=>whnf)
     |(refine af rfl ?_;show AV.d (D.bool false)=_;(try simp only[ak]at *);rw[hno (by rw[hat];simp only[vT, *, if_true,if_false,aB])];done)
     |(refine⟨k+1,⟨by omega,?_⟩,by(show s.data.length-(k+1)<s.data.length-k;omega),aj.keep ⟨ab,ab,⟨an (by omega),rfl⟩,trivial⟩ ⟨ab,trivial⟩⟩;rw[bQ,hall,hat];((try simp only[ak]at *);simp only[vT, *, if_true,if_false,aB];done))
     |(refine⟨_,_,IC _ _,?_⟩;conv=>whnf)
     |(refine⟨_,_,LS _ _,?_⟩;conv=>whnf)
     |(refine⟨(gW (by assumption) (by omega)).1,bz p,eo (by assumption) (by omega) hp,?_⟩;conv=>whnf)
     |(refine⟨aw k,bz d,aG hd,?_⟩;conv=>whnf)
     |(refine ae (λh=>?_) (λh=>?_) <;> (rw[h];conv=>whnf))
     |fail)
  . (refine af rfl ?_;obtain rfl:k=s.data.length:=(by simp at h1;omega);show AV.d (D.bool true)=_;rw[hyes,hall])
end Go.Proofs.YtmaepddmaghpjaaGreatDoor
namespace NP
open NQ Go
def atI(l:List Signed)(q:aR):Int:=match l.findIdx? (is q)with|some k=>(k:Int)|none=> -1
theorem mY(l:List Signed)(q:aR):decide (atI l q<0)= !cJ l q:=by
 unfold atI cJ;cases h:l.findIdx? (is q)with
 |some k =>
  have:=List.findIdx?_eq_some_iff_getElem.1 h;obtain⟨hk,h1,_⟩:=this;have:l.any (is q)=true:=List.any_eq_true.2 ⟨_,List.getElem_mem hk,h1⟩;rw[this];simp
 |none =>
  have:=List.findIdx?_eq_none_iff.1 h;have:l.any (is q)=false:=by rw[List.any_eq_false];intro x hx;rw[this x hx];simp
  rw[this];simp
def pK(l:List Signed)(q:aR)(i:Nat):Bool:=match l[i]? with|some x=> !is q x|none=>true
theorem QA{l:List Signed}{q:aR}{k:Nat}{s:Signed}(hk:l[k]? =some s)(hs:is q s=true)(hb:(List.range k).all (pK l q)=true):atI l q=k:=by
 obtain⟨hl,e⟩:=ar.1 hk;have:l.findIdx? (is q)=some k:=List.findIdx?_eq_some_iff_getElem.2 ⟨hl,by rw[e];exact hs,λj hj=>by
  have:=av.1 hb j (List.mem_range.2 hj);simp only[pK,ah (show j<l.length by omega)]at this;simpa using this⟩
 rw[atI,this]
theorem Nv{l:List Signed}{q:aR}(hb:(List.range l.length).all (pK l q)=true):atI l q= -1:=by
 have:l.findIdx? (is q)=none:=List.findIdx?_eq_none_iff.2 λx hx=>by
  obtain⟨j,hj,rfl⟩:=List.getElem_of_mem hx;have:=av.1 hb j (List.mem_range.2 hj);simp only[pK,ah hj]at this;simpa using this
 rw[atI,this]
def ql(z:aF)(i:Nat):Bool:=match z.sets[i]? with|some s=> !(decide ((s.set.data.length:Int)>20)||decide ((s.sigs.length:Int)>20))|none=>false
def ib(z:aF):Bool:=decide ((z.sets.length:Int)<=100)&&(List.range z.sets.length).all (ql z)
def qt(apex:Bs)(i:Nat)(s p:Signed):Bool:= !dL s.set|| !aD s.set.name apex||(decide ((i:Int)>0)&&decide (cpl (p.set.name,p.set.type) (s.set.name,s.set.type)>=0))
def rq(z:aF)(i:Nat):Bool:=match z.sets[i]?, z.sets[i-1]? with|some s,some p=> !qt z.apex i s p|_,_=>false
def xN(z:aF):Bool:= !((!aq z.apex||ff z.apex)||decide ((z.sets.length:Int)>20000))&&(List.range z.sets.length).all (rq z)
def uK(i:Nat)(apex:Bs)(g f p:Sig):Bool :=
 (!(g.zone==apex)||decide (g.key<1)||decide (g.key>1000000)||decide (g.alg<1)||decide (g.alg>3)||(g.since != f.since)||(g.till != f.till)||(decide ((i:Int)>0)&&decide (g.key<=p.key))) ||
  (decide (g.since<0)||decide (g.since>g.till)||decide (g.till>20000000))
def gAt(l:List Sig)(apex:Bs)(i:Nat):Bool:=match l[i]?, l[0]?, l[i-1]? with|some g,some f,some p=> !uK i apex g f p|_,_,_=>false
def gB(l:List Sig)(apex:Bs):Bool:= !decide ((l.length:Int)>6)&&(List.range l.length).all (gAt l apex)
end NP
namespace Go.Proofs.YtmaepddmaghpjaaGreatDoor
open NQ Go NP Go.RowKit
theorem Mf(t:Int)(ap:Bool):NQ.Fn cx 145 [.int .i64 t,.bool ap] (.d (.bool (fits t ap))) []:=by
 refine aA aO mixed Tryz.func145 (by kernel_rfl) rfl (ag rfl) ?_;conv=>whnf
 repeat' (first|(refine ae (λh=>?_) (λh=>?_) <;> (rw[h];conv=>whnf))|fail)
 all_goals refine af rfl ?_
 all_goals simp_all [D.cQ,fits]
 all_goals (rw[Bool.eq_iff_iff];simp)
 all_goals (try omega)
theorem Ct(z:aF)(q:aR)(hn:z.sets.length<=100000):NQ.Fn cx 46 [.agg (aT z),.agg (cL q)] (.d (.int .i64 (atI z.sets q))) []:=by
 refine aA aO mixed Tryz.func46 (by kernel_rfl) rfl (ag rfl) ?_;conv=>whnf
 refine⟨Nat,λk=>⟨[(2,.ptr 2 0),(3,.ptr 3 0),(5,.d (.int .i64 k))],[(2,.box ((aT z).map .d)),(3,.box ((cL q).map .d))]⟩,λk=>k<=z.sets.length/\(List.range k).all (pK z.sets q)=true,λk=>z.sets.length-k,⟨0,⟨by omega,rfl⟩,aj.keep ⟨ab,ab,ab,trivial⟩ ⟨ab,ab,trivial⟩⟩,λk ⟨hk,hall⟩=>?_⟩;(conv=>whnf);refine ae (λh1=>?_) (λh1=>?_) <;> (rw[h1];conv=>whnf)
 . have hlt:k<z.sets.length:=by simp at h1;omega
   obtain⟨s,hs⟩:∃s,z.sets[k]? =some s:=⟨_,ah hlt⟩
   have hat:pK z.sets q k= !is q s:=by simp only[pK,hs]
   repeat' (first
    |(refine⟨(by kernel_rfl:bg _ _=true),?_⟩;conv=>whnf)
    |(refine af rfl ?_;rw[QA hs (by simp only[is, *, if_true,if_false,aB]) hall];rfl)
    |(refine⟨k+1,⟨by omega,?_⟩,by(show z.sets.length-(k+1)<z.sets.length-k;omega),aj.keep ⟨ab,ab,⟨an (by omega),rfl⟩,trivial⟩ ⟨ab,ab,trivial⟩⟩;rw[bQ,hall,hat];((try simp only[ak]at *);simp only[is, *, if_true,if_false,aB];done))
    |(refine ae (λh=>?_) (λh=>?_) <;> (rw[h];conv=>whnf))
    |(refine⟨aw k,ax s,aG hs,?_⟩;conv=>whnf)
    |fail)
 . obtain rfl:k=z.sets.length:=(by simp at h1;omega)
   refine af rfl ?_;rw[Nv hall];rfl
theorem Sq(z:aF):NQ.Fn cx 49 [.agg (aT z)] (.d (.bool (ib z))) []:=by
 refine aA aO mixed Tryz.func49 (by kernel_rfl) rfl (ag rfl) ?_;conv=>whnf
 refine⟨Nat,λk=>⟨[(1,.ptr 1 0),(3,.d (.int .i64 k))],[(1,.box ((aT z).map .d))]⟩,λk=>k<=z.sets.length/\k<=101/\(List.range k).all (ql z)=true,λk=>101-k,
  ⟨0,⟨by omega,by omega,rfl⟩,aj.keep ⟨ab,ab,trivial⟩ ⟨ab,trivial⟩⟩,λk ⟨hk,hk',hall⟩=>?_⟩
 conv=>whnf
 refine ae (λh1=>?_) (λh1=>?_) <;> (rw[h1];conv=>whnf)
 . have hlt:k<z.sets.length:=by simp at h1;omega
   refine ae (λh2=>?_) (λh2=>?_) <;> (rw[h2];conv=>whnf)
   . have hlt' :k<=100:=by simp at h2;omega
     obtain⟨s,hs⟩:∃s,z.sets[k]? =some s:=⟨_,ah hlt⟩
     have hat:ql z k= !(decide ((s.set.data.length:Int)>20)||decide ((s.sigs.length:Int)>20)):=by simp only[ql,hs]
     have hno:ql z k=false->ib z=false:=λhh=>by rw[ib,bF hlt hh,iE]
     repeat' (first
      |(refine⟨(by kernel_rfl:bg _ _=true),?_⟩;conv=>whnf)
      |(refine af rfl ?_;show AV.d (D.bool false)=_;(try simp only[ak]at *);rw[hno (by rw[hat];simp only[ql, *, if_true,if_false,aB])];done)
      |(refine⟨k+1,⟨by omega,by omega,?_⟩,by(show 101-(k+1)<101-k;omega),aj.keep ⟨ab,⟨an (by omega),rfl⟩,trivial⟩ ⟨ab,trivial⟩⟩;rw[bQ,hall,hat];((try simp only[ak]at *);simp only[ql, *, if_true,if_false,aB];done))
      |(refine ae (λh=>?_) (λh=>?_) <;> (rw[h];conv=>whnf))
      |(refine⟨aw k,ax s,aG hs,?_⟩;conv=>whnf)
      |fail)
   . refine af rfl ?_;show AV.d (D.bool (decide (((z.sets.map ax).length:Int)<=100)))=_
     have:decide ((z.sets.length:Int)<=100)=false:=by simp at h2 ⊢;omega
     rw[ak,ib,this];rfl
 . refine af rfl ?_;obtain rfl:k=z.sets.length:=(by simp at h1;omega)
   show AV.d (D.bool (decide (((z.sets.map ax).length:Int)<=100)))=_
   rw[ak,ib,hall,gM]
theorem SS(z:aF)(hn:z.sets.length<=100000):NQ.Fn cx 102 [.agg (aT z)] (.d (.bool (iu (λt=>cJ z.sets ⟨z.apex,t⟩) z))) []:=by
 refine aA aO mixed Tryz.func102 (by kernel_rfl) rfl (ag rfl) ?_;conv=>whnf
 (refine⟨_,_,Ct z ⟨z.apex,4⟩ hn,?_⟩;conv=>whnf)
 rw[mY]
 (refine ae (λh=>?_) (λh=>?_) <;> (rw[h];conv=>whnf))
 . (refine af rfl ?_;show AV.d (D.bool false)=_;(try simp only[Bool.not_eq_true',Bool.not_eq_false',ak]at *);simp only[iu, *, if_true,if_false,aB];done)
 (refine⟨_,_,Ct z ⟨z.apex,2⟩ hn,?_⟩;conv=>whnf)
 rw[mY]
 (refine ae (λh=>?_) (λh=>?_) <;> (rw[h];conv=>whnf))
 . (refine af rfl ?_;show AV.d (D.bool false)=_;(try simp only[Bool.not_eq_true',Bool.not_eq_false',ak]at *);simp only[iu, *, if_true,if_false,aB];done)
 have hyes:iu (λt=>cJ z.sets ⟨z.apex,t⟩) z=(List.range z.sets.length).all (jl z):=by
  simp only[Bool.not_eq_false']at *; simp only[iu, *, if_true,if_false,aB]
 refine⟨Nat,λk=>⟨[(1,.ptr 1 0),(3,.d (.int .i64 k))],[(1,.box ((aT z).map .d))]⟩,λk=>k<=z.sets.length/\(List.range k).all (jl z)=true,λk=>z.sets.length-k,⟨0,⟨by omega,rfl⟩,aj.keep ⟨ab,ab,trivial⟩ ⟨ab,trivial⟩⟩,λk ⟨hk,hall⟩=>?_⟩;(conv=>whnf);refine ae (λh1=>?_) (λh1=>?_) <;> (rw[h1];conv=>whnf)
 . have hlt:k<z.sets.length:=by simp at h1;omega
   obtain⟨s,hs⟩:∃s,z.sets[k]? =some s:=⟨_,ah hlt⟩
   have hat:jl z k= !(!fits s.set.type (s.set.name==z.apex)):=by simp only[jl,hs,oo]
   have hno:jl z k=false->iu (λt=>cJ z.sets ⟨z.apex,t⟩) z=false:=λhh=>by rw[hyes,bF hlt hh]
   repeat' (first
    |(refine⟨(by kernel_rfl:bg _ _=true),?_⟩;conv=>whnf)
    |(refine af rfl ?_;show AV.d (D.bool false)=_;(try simp only[ak]at *);rw[hno (by rw[hat];simp only[jl, *, if_true,if_false,aB])];done)
    |(refine⟨k+1,⟨by omega,?_⟩,by(show z.sets.length-(k+1)<z.sets.length-k;omega),aj.keep ⟨ab,⟨an (by omega),rfl⟩,trivial⟩ ⟨ab,trivial⟩⟩;rw[bQ,hall,hat];((try simp only[ak]at *);simp only[jl, *, if_true,if_false,aB];done))
    |(refine⟨_,_,Mf _ _,?_⟩;conv=>whnf)
    |(refine⟨aw k,ax s,aG hs,?_⟩;conv=>whnf)
    |(refine ae (λh=>?_) (λh=>?_) <;> (rw[h];conv=>whnf))
    |fail)
 . (refine af rfl ?_;obtain rfl:k=z.sets.length:=(by simp at h1;omega);show AV.d (D.bool true)=_;rw[hyes,hall])
end Go.Proofs.YtmaepddmaghpjaaGreatDoor
namespace NP
open NQ Go
theorem Tf(l:List Sig)(apex:Bs):gB l apex=fM l apex:=by
 have hat:∀i,gAt l apex i=nF l apex i:=by
  intro i;cases i with
  |zero =>
   simp only[gAt,nF,Nat.zero_sub];cases l[0]? with
   |none=>rfl
   |some g =>
    show(!uK 0 apex g g g)= !oc 0 apex g g g
    unfold uK oc;simp[Bool.or_assoc]
  |succ i =>
   simp only[gAt,nF];cases l[i+1]? with
   |none=>rfl
   |some g =>
    cases l[0]? with
    |none=>rfl
    |some f =>
     cases l[i+1-1]? with
     |none=>rfl
     |some p =>
      show(!uK (i+1) apex g f p)= !oc (i+1) apex g f p
      congr 1
      unfold uK oc;have:decide (((i+1:Nat):Int)>0)=true:=by simp
      rw[this];generalize (!(g.zone==apex))=a1;generalize decide (g.key<1)=a2;generalize decide (g.key>1000000)=a3;generalize decide (g.alg<1)=a4;generalize decide (g.alg>3)=a5;generalize (g.since != f.since)=a6;generalize (g.till != f.till)=a7;generalize decide (g.key<=p.key)=a8;generalize decide (g.since<0)=b1;generalize decide (g.since>g.till)=b2;generalize decide (g.till>20000000)=b3;cases a1 <;> cases a2 <;> cases a3 <;> cases a4 <;> cases a5 <;> simp;cases a6 <;> cases a7 <;> cases a8 <;> simp
 unfold gB fM;rw[show gAt l apex=nF l apex from funext hat]
theorem Rx(z:aF):xN z=ordered z:=by
 unfold xN ordered;by_cases hv:aq z.apex=true
 . congr 1
   by_cases hall:∀s∈z.sets,dL s.set=true
   . rw[Bool.eq_iff_iff,av,av];have heq:∀i,i<z.sets.length->rq z i=qx z i:=by
      intro i hi;obtain⟨s,hs⟩:∃s,z.sets[i]? =some s:=⟨_,ah hi⟩
      obtain⟨p,hp⟩:∃p,z.sets[i-1]? =some p:=⟨_,ah (by omega)⟩
      have vs:=js (hall s (ao hs));have vp:=js (hall p (ao hp));have hu:(bq s.set.name z.apex).1=aD s.set.name z.apex:=by unfold bq;rw[if_pos ⟨vs,hv⟩]
      rw[pP hs hp];simp only[rq,hs,hp];unfold qt lv;rw[hu,sy _ _ vp vs];have:decide ((i:Int)>0)= !((i:Int)==0):=by rw[Bool.eq_iff_iff];simp;omega
      rw[this]
     exact⟨λh i hi=>by rw[<- heq i (List.mem_range.1 hi)];exact h i hi,λh i hi=>by rw[heq i (List.mem_range.1 hi)];exact h i hi⟩
   . have⟨s,hm,hs⟩:∃s∈z.sets,dL s.set=false:=by
      simp only[Classical.not_forall]at hall;obtain⟨s,hm,hs⟩:=hall;exact⟨s,hm,by simpa using hs⟩
     obtain⟨i,hi⟩:=cj hm;obtain⟨hl,_⟩:=ar.1 hi;obtain⟨p,hp⟩:∃p,z.sets[i-1]? =some p:=⟨_,ah (by omega)⟩
     rw[bF hl (by simp only[rq,hi,hp,qt,hs];rfl),bF hl (by rw[pP hi hp,lv,hs];rfl)]
 . simp[show aq z.apex=false by simpa using hv]
end NP
namespace Go.Proofs.YtmaepddmaghpjaaGreatDoor
open NQ Go NP Go.RowKit
theorem Oz(l:List Sig)(apex:Bs):NQ.Fn cx 148 [.slice 6 (l.map mI),.str apex] (.d (.bool (fM l apex))) []:=by
 rw[<- Tf];refine aA aO mixed Tryz.func148 (by kernel_rfl) rfl (ag rfl) ?_;conv=>whnf
 (refine ae (λh=>?_) (λh=>?_) <;> (rw[h];conv=>whnf))
 . (refine af rfl ?_;show AV.d (D.bool false)=_;(try simp only[ak]at *);simp only[gB, *, if_true,if_false,aB];done)
 have hl:l.length<=6:=by simp at h;omega
 have hyes:gB l apex=(List.range l.length).all (gAt l apex):=by
  simp only[ak]at *; simp only[gB, *, if_true,if_false,aB]
 refine⟨Nat,λk=>⟨[(0,.d (.slice 6 (l.map mI))),(1,.d (.str apex)),(5,.d (.int .i64 k))],[]⟩,λk=>k<=l.length/\(List.range k).all (gAt l apex)=true,λk=>l.length-k,⟨0,⟨by omega,rfl⟩,aj.keep ⟨ab,ab,ab,trivial⟩ trivial⟩,λk ⟨hk,hall⟩=>?_⟩;(conv=>whnf);refine ae (λh1=>?_) (λh1=>?_) <;> (rw[h1];conv=>whnf)
 . have hlt:k<l.length:=by simp at h1;omega
   obtain⟨g,hg⟩:∃g,l[k]? =some g:=⟨_,ah hlt⟩
   obtain⟨f,hf⟩:∃f,l[0]? =some f:=⟨_,ah (by omega)⟩
   obtain⟨p,hp⟩:∃p,l[k-1]? =some p:=⟨_,ah (by omega)⟩
   have hat:gAt l apex k= !uK k apex g f p:=by simp only[gAt,hg,hf,hp]
   have hno:gAt l apex k=false->gB l apex=false:=λhh=>by rw[hyes,bF hlt hh]
   repeat' (first
    |(refine⟨(by kernel_rfl:bg _ _=true),?_⟩;conv=>whnf)
    |(refine af rfl ?_;show AV.d (D.bool false)=_;(try simp only[ak]at *);rw[hno (by rw[hat];simp only[uK, *, if_true,if_false,aB])];done)
    |(refine⟨k+1,⟨by omega,?_⟩,by(show l.length-(k+1)<l.length-k;omega),aj.keep ⟨ab,ab,⟨an (by omega),rfl⟩,trivial⟩ trivial⟩;rw[bQ,hall,hat];((try simp only[ak]at *);simp only[uK, *, if_true,if_false,aB];done))
    |(refine ae (λh=>?_) (λh=>?_) <;> (rw[h];conv=>whnf))
    |(refine⟨(gW (by assumption) (by omega)).1,mI p,eo (by assumption) (by omega) hp,?_⟩;conv=>whnf)
    |(refine⟨by decide,mI f,aG (k:=0) hf,?_⟩;conv=>whnf)
    |(refine⟨aw k,mI g,aG hg,?_⟩;conv=>whnf)
    |fail)
 . (refine af rfl ?_;obtain rfl:k=l.length:=(by simp at h1;omega);show AV.d (D.bool true)=_;rw[hyes,hall])
theorem SE(z:aF):NQ.Fn cx 101 [.agg (aT z)] (.d (.bool (ordered z))) []:=by
 rw[<- Rx];refine aA aO mixed Tryz.func101 (by kernel_rfl) rfl (ag rfl) ?_;conv=>whnf
 (refine⟨_,_,qf _,?_⟩;conv=>whnf)
 (refine ae (λh=>?_) (λh=>?_) <;> (rw[h];conv=>whnf))
 . (refine af rfl ?_;show AV.d (D.bool false)=_;(try simp only[ak]at *);simp only[xN, *, if_true,if_false,aB];done)
 have hva:aq z.apex=true:=by simpa using h
 (refine⟨_,_,CK _ hva,?_⟩;conv=>whnf)
 repeat' (first|(refine ae (λh=>?_) (λh=>?_) <;> (rw[h];conv=>whnf))|(refine af rfl ?_;show AV.d (D.bool false)=_;(try simp only[ak]at *);simp only[xN, *, if_true,if_false,aB];done)|fail)
 have hn:z.sets.length<=20000:=by simp at *; omega
 have hyes:xN z=(List.range z.sets.length).all (rq z):=by
  simp only[ak]at *;simp only[xN, *, if_true,if_false,aB]
 refine⟨Nat,λk=>⟨[(1,.ptr 1 0),(3,.d (.int .i64 k))],[(1,.box ((aT z).map .d))]⟩,λk=>k<=z.sets.length/\(List.range k).all (rq z)=true,λk=>z.sets.length-k,⟨0,⟨by omega,rfl⟩,aj.keep ⟨ab,ab,trivial⟩ ⟨ab,trivial⟩⟩,λk ⟨hk,hall⟩=>?_⟩;(conv=>whnf);refine ae (λh1=>?_) (λh1=>?_) <;> (rw[h1];conv=>whnf)
 . have hlt:k<z.sets.length:=by simp at h1;omega
   obtain⟨s,hs⟩:∃s,z.sets[k]? =some s:=⟨_,ah hlt⟩
   obtain⟨p,hp⟩:∃p,z.sets[k-1]? =some p:=⟨_,ah (by omega)⟩
   have hat:rq z k= !qt z.apex k s p:=by simp only[rq,hs,hp]
   have hno:rq z k=false->xN z=false:=λhh=>by rw[hyes,bF hlt hh]
   have hvp:decide ((k:Int)>0)=true->aq p.set.name=true:=λh0=>by
    have:=av.1 hall (k-1) (List.mem_range.2 (by simp at h0;omega));obtain⟨p',hp'⟩:∃p',z.sets[k-1-1]? =some p' :=⟨_,ah (by omega)⟩
    simp only[rq,hp,hp',qt,Bool.not_eq_true',Bool.or_eq_false_iff,Bool.not_eq_false']at this;exact js this.1.1
   refine⟨aw k,ax s,aG hs,?_⟩
   conv=>whnf
   (refine⟨(by kernel_rfl:bg _ _=true),?_⟩;conv=>whnf)
   (refine⟨_,_,EO s.set,?_⟩;conv=>whnf)
   refine ae (λh9=>?_) (λh9=>?_) <;> (rw[h9];conv=>whnf)
   . repeat' (first|(refine af rfl ?_;show AV.d (D.bool false)=_;(try simp only[ak]at *);rw[hno (by rw[hat];simp only[qt, *, if_true,if_false,aB])];done)|fail)
   . have vs:aq s.set.name=true:=js (by simpa using h9)
     repeat' (first
      |(refine af rfl ?_;show AV.d (D.bool false)=_;(try simp only[ak]at *);rw[hno (by rw[hat];simp only[qt, *, if_true,if_false,aB])];done)
      |(refine⟨k+1,⟨by omega,?_⟩,by(show z.sets.length-(k+1)<z.sets.length-k;omega),aj.keep ⟨ab,⟨an (by omega),rfl⟩,trivial⟩ ⟨ab,trivial⟩⟩;rw[bQ,hall,hat];((try simp only[ak]at *);simp only[qt, *, if_true,if_false,aB];done))
      |(refine⟨_,_,tQ _ _ (cU vs) (cU hva),?_⟩;conv=>whnf)
      |(refine⟨_,_,Jz p.set s.set (hvp (by assumption)) vs,?_⟩;conv=>whnf)
      |(refine⟨(gW (by assumption) (by omega)).1,ax p,eo (by assumption) (by omega) hp,?_⟩;conv=>whnf)
      |(refine ae (λh=>?_) (λh=>?_) <;> (rw[h];conv=>whnf))
      |fail)
 . (refine af rfl ?_;obtain rfl:k=z.sets.length:=(by simp at h1;omega);show AV.d (D.bool true)=_;rw[hyes,hall])
end Go.Proofs.YtmaepddmaghpjaaGreatDoor
namespace NP
open NQ Go
def cq(apex:Bs):List Signed->List Bs
 |[]=>[]
 |s::t=>if db apex s=true then s.set.name::cq apex t else cq apex t
theorem pA(apex:Bs):∀l,(cq apex l).length<=l.length
 |[]=>Nat.le_refl _
 |s::t=>by unfold cq;split <;> have:=pA apex t <;> simp <;> omega
theorem lR(apex:Bs):∀(l:List Signed) c,c∈cq apex l-> ∃s∈l,s.set.name=c
 |[],c,h=>by cases h
 |s::t,c,h=>by
  unfold cq at h;split at h
  . rcases List.mem_cons.1 h with rfl|h
    . exact⟨s,List.mem_cons_self .., rfl⟩
    . obtain⟨x,hx,e⟩:=lR apex t c h;exact⟨x,aK _ hx,e⟩
  . obtain⟨x,hx,e⟩:=lR apex t c h;exact⟨x,aK _ hx,e⟩
def qn(acc:List Bs)(c:Bs):Bool:=((acc.length:Int)==0)|| !aD c (nD acc)
def kg:List Bs->List Bs->List Bs
 |acc,[]=>acc
 |acc,c::t=>kg (if qn acc c=true then acc++[c]else acc) t
def bD(z:aF):List Bs:=kg [] (cq z.apex z.sets)
theorem drop_cons{α:Type}{l:List α}{k:Nat}{x:α}(h:l[k]? =some x):l.drop k=x::l.drop (k+1):=by
 obtain⟨hl,e⟩:=ar.1 h;rw[List.drop_eq_getElem_cons hl,e]
theorem lS{acc:List Bs}(h:acc.length≠0):nD acc∈acc:=by
 rw[nD,ah (by omega)];exact List.getElem_mem _
end NP
namespace Go.Proofs.YtmaepddmaghpjaaGreatDoor
open NQ Go NP Go.RowKit
theorem QI(z:aF)(hn:z.sets.length<=100000):NQ.Fn cx 217 [.agg (aT z)] (.d (.slice 1 ((cq z.apex z.sets).map aL))) []:=by
 refine aA aO mixed Tryz.func217 (by kernel_rfl) rfl (ag rfl) ?_;conv=>whnf
 refine⟨Nat×List Bs,λx=>⟨[(1,.ptr 1 0),(3,.own 100),(4,.d (.int .i64 x.1))],[(1,.box ((aT z).map .d)),(100,.row 9 1 (x.2.map aL))]⟩,
  λx=>x.1<=z.sets.length/\x.2.length<=x.1/\x.2++cq z.apex (z.sets.drop x.1)=cq z.apex z.sets,λx=>z.sets.length-x.1,
  ⟨(0,[]),⟨by simp,by simp,rfl⟩,(aj.ni 3 100 1 9 1 rfl rfl (by decide)).trans (aj.keep ⟨ab,ab,ab,trivial⟩ ⟨ab,ab,trivial⟩)⟩,?_⟩
 rintro⟨k,acc⟩ ⟨hk,hl,hc⟩;simp only at hk hl hc
 conv=>whnf
 refine ae (λh1=>?_) (λh1=>?_) <;> (rw[h1];conv=>whnf)
 . have hlt:k<z.sets.length:=by simp at h1;omega
   obtain⟨s,hs⟩:∃s,z.sets[k]? =some s:=⟨_,ah hlt⟩
   rw[drop_cons hs,cq]at hc
   repeat' (first
    |(refine⟨(by kernel_rfl:bg _ _=true),?_⟩;conv=>whnf)
    |(refine⟨(k+1,acc),⟨hlt,by(show acc.length<=k+1;omega),(by simp only[db, *, if_true,if_false,aB]at hc;exact hc)⟩,by(show z.sets.length-(k+1)<z.sets.length-k;omega),aj.keep ⟨ab,ab,⟨an (by omega),rfl⟩,trivial⟩ ⟨ab,ab,trivial⟩⟩;done)
    |(refine⟨(k+1,acc++[s.set.name]),⟨hlt,by(simp;omega),(by simp only[db, *, if_true,if_false,aB]at hc;rw[<- hc];simp)⟩,by(show z.sets.length-(k+1)<z.sets.length-k;omega),aj.keep ⟨ab,ab,⟨an (by omega),rfl⟩,trivial⟩ ⟨ab,⟨by(show some (Blk.row _ _ (_++_))=some (Blk.row _ _ _);rw[List.map_append];rfl),rfl⟩,trivial⟩⟩;done)
    |(refine ae (λh=>?_) (λh=>?_) <;> (rw[h];conv=>whnf))
    |(refine⟨aw k,ax s,aG hs,?_⟩;conv=>whnf)
    |(refine⟨by(show(acc.map aL).length+1<=_;rw[ak];omega),by(show((acc.map aL).length+1)*16<=_;rw[ak];omega),?_⟩;conv=>whnf)
    |fail)
 . obtain rfl:k=z.sets.length:=by simp at h1;omega
   refine af rfl ?_;rw[List.drop_length,cq,List.append_nil]at hc;rw[<- hc];rfl
theorem IW(z:aF)(hn:z.sets.length<=100000)(hv:∀s∈z.sets,aq s.set.name=true):NQ.Fn cx 194 [.agg (aT z)] (.d (.slice 1 ((bD z).map aL))) []:=by
 refine aA aO mixed Tryz.func194 (by kernel_rfl) rfl (ag rfl) ?_;conv=>whnf
 (refine⟨_,_,QI z hn,?_⟩;conv=>whnf)
 obtain⟨l,hl0⟩:∃l,l=cq z.apex z.sets:=⟨_,rfl⟩
 have hln:l.length<=100000:=by rw[hl0];exact Nat.le_trans (pA _ _) hn
 have hlv:∀c∈l,c.length<=60:=λc hc=>by
  rw[hl0]at hc;obtain⟨s,hs,e⟩:=lR _ _ _ hc;rw[<- e];exact cU (hv s hs)
 rw[bD, <- hl0];clear hl0;refine⟨Nat×List Bs,λx=>⟨[(3,.d (.slice 1 (l.map aL))),(4,.own 100),(5,.d (.int .i64 x.1))],[(100,.row 9 1 (x.2.map aL))]⟩,
  λx=>x.1<=l.length/\x.2.length<=x.1/\(∀c∈x.2,c∈l)/\kg x.2 (l.drop x.1)=kg [] l,λx=>l.length-x.1,
  ⟨(0,[]),⟨by simp,by simp,by simp,rfl⟩,(aj.ni 4 100 1 9 1 rfl rfl (by decide)).trans (aj.keep ⟨ab,ab,ab,trivial⟩ ⟨ab,trivial⟩)⟩,?_⟩
 rintro⟨k,acc⟩ ⟨hk,hl,hm,hc⟩;simp only at hk hl hm hc
 conv=>whnf
 refine ae (λh1=>?_) (λh1=>?_) <;> (rw[h1];conv=>whnf)
 . have hlt:k<l.length:=by simp at h1;omega
   obtain⟨s,hs⟩:∃s,l[k]? =some s:=⟨_,ah hlt⟩
   have hms:=ao hs;rw[drop_cons hs,kg]at hc
   repeat' (first
    |(refine⟨(by kernel_rfl:bg _ _=true),?_⟩;conv=>whnf)
    |(refine⟨(k+1,acc),⟨hlt,by(show acc.length<=k+1;omega),hm,(by(try simp only[ak]at *);simp only[qn, *, if_true,if_false,aB]at hc;exact hc)⟩,by(show l.length-(k+1)<l.length-k;omega),aj.keep ⟨ab,ab,⟨an (by omega),rfl⟩,trivial⟩ ⟨ab,trivial⟩⟩;done)
    |(refine⟨(k+1,acc++[s]),⟨hlt,by(simp;omega),(by intro c hc';rcases List.mem_append.1 hc' with q|q;exact hm c q;simp at q;rw[q];exact hms),(by(try simp only[ak]at *);simp only[qn, *, if_true,if_false,aB]at hc;exact hc)⟩,by(show l.length-(k+1)<l.length-k;omega),aj.keep ⟨ab,ab,⟨an (by omega),rfl⟩,trivial⟩ ⟨⟨by(show some (Blk.row _ _ (_++_))=some (Blk.row _ _ _);rw[List.map_append];rfl),rfl⟩,trivial⟩⟩;done)
    |(refine⟨_,_,tQ _ _ (hlv s hms) (hlv _ (hm _ (lS (vL (by assumption))))),?_⟩;conv=>whnf)
    |(refine ae (λh=>?_) (λh=>?_) <;> (rw[h];conv=>whnf))
    |(refine⟨aw k,aL s,aG hs,?_⟩;conv=>whnf)
    |(rw[LQ (acc:=acc) (by omega) (by assumption)];refine⟨aw _,Re (acc:=acc) (by assumption),?_⟩;conv=>whnf)
    |(refine⟨_,OL (acc:=acc) (by assumption),?_⟩;conv=>whnf)
    |(refine⟨by(show(acc.map aL).length+1<=_;rw[ak];omega),by(show((acc.map aL).length+1)*16<=_;rw[ak];omega),?_⟩;conv=>whnf)
    |fail)
 . obtain rfl:k=l.length:=by simp at h1;omega
   refine af rfl ?_;rw[List.drop_length,kg]at hc;rw[<- hc];rfl
end Go.Proofs.YtmaepddmaghpjaaGreatDoor
namespace NP
open NQ Go
def jd(cs:List Bs)(n:Bs)(k:Nat):Nat:=k+((cs.drop k).takeWhile λc=>decide (aI c n<=0)).length
theorem Ia{cs:List Bs}{n c:Bs}{k:Nat}(h:cs[k]? =some c)(hc:decide (aI c n<=0)=true):jd cs n (k+1)=jd cs n k:=by
 unfold jd;rw[drop_cons h,List.takeWhile_cons,if_pos hc,List.length_cons];omega
theorem Ib{cs:List Bs}{n c:Bs}{k:Nat}(h:cs[k]? =some c)(hc:decide (aI c n<=0)=false):jd cs n k=k:=by
 unfold jd;rw[drop_cons h,List.takeWhile_cons,hc];rfl
theorem Ky{cs:List Bs}{n:Bs}{k:Nat}(h:cs.length<=k):jd cs n k=k:=by
 unfold jd;rw[List.drop_eq_nil_of_le h];rfl
def kV(cs:List Bs)(j:Nat):Bs:=(cs[j-1]?).getD []
def qT(cs:List Bs)(j:Nat)(n:Bs):Bs:=if (decide ((j:Int)>0)&&aD n (kV cs j))=true then kV cs j else[]
def bGo(cs:List Bs):Nat->List Signed->List Bs
 |_,[]=>[]
 |k,s::t=>qT cs (jd cs s.set.name k) s.set.name::bGo cs (jd cs s.set.name k) t
def ee(z:aF):List Bs:=bGo (bD z) 0 z.sets
theorem xD:∀(l acc:List Bs) c,c∈kg acc l->c∈acc\/c∈l
 |[],acc,c,h=> .inl h
 |x::t,acc,c,h=>by
  rw[kg]at h;rcases xD t _ c h with q|q
  . split at q
    . rcases List.mem_append.1 q with q|q
      . exact .inl q
      . simp at q;subst q;exact .inr (List.mem_cons_self ..)
    . exact .inl q
  . exact .inr (aK _ q)
theorem wB:∀(l acc:List Bs),(kg acc l).length<=acc.length+l.length
 |[],acc=>by simp[kg]
 |x::t,acc=>by
  rw[kg];have:=wB t (if qn acc x=true then acc++[x]else acc);split at this <;> rename_i hh
  . rw[if_pos hh];simp at this ⊢;omega
  . rw[if_neg hh];simp at this ⊢;omega
theorem xQ{cs:List Bs}{j:Nat}(hj:j<=cs.length)(h0:decide ((j:Int)>0)=true):cs[j-1]? =some (kV cs j):=by
 have:0<j:=by simpa using h0
 rw[kV,ah (by omega)];rfl
end NP
namespace Go.Proofs.YtmaepddmaghpjaaGreatDoor
open NQ Go NP Go.RowKit
theorem AU(z:aF)(hn:z.sets.length<=100000)(hv:∀s∈z.sets,aq s.set.name=true):NQ.Fn cx 146 [.agg (aT z)] (.d (.slice 1 ((ee z).map aL))) []:=by
 refine aA aO mixed Tryz.func146 (by kernel_rfl) rfl (ag rfl) ?_;conv=>whnf
 (refine⟨_,_,IW z hn hv,?_⟩;conv=>whnf)
 obtain⟨l,hl0⟩:∃l,l=bD z:=⟨_,rfl⟩
 have hln:l.length<=100000:=by
  rw[hl0,bD];have:=wB (cq z.apex z.sets) [];have:=pA z.apex z.sets;simp at *; omega
 have hlv:∀c∈l,c.length<=60:=λc hc=>by
  rw[hl0]at hc;rcases xD _ _ _ hc with q|q
  . cases q
  . obtain⟨s,hs,e⟩:=lR _ _ _ q;rw[<- e];exact cU (hv s hs)
 rw[ee, <- hl0];clear hl0;refine⟨by omega,.inl rfl,by omega,by(simp only[ak];omega),by(simp only[ak];omega),?_⟩
 conv=>whnf
 refine ⟨Nat × Nat × List Bs, fun x => ⟨[(1, .ptr 1 0), (3, .d (.slice 1 (l.map aL))), (4, .own 13), (5, .d (.int .i64 x.2.1)), (6, .d (.int .i64 x.1))],
     [(1,.box ((aT z).map .d)),(13,.row 9 1 ((x.2.2++List.replicate (z.sets.length-x.1) []).map aL) true)]⟩,
  λx=>x.1<=z.sets.length/\x.2.1<=l.length/\x.2.2.length=x.1/\x.2.2++bGo l x.2.1 (z.sets.drop x.1)=bGo l 0 z.sets,λx=>z.sets.length-x.1,
  ⟨(0,0,[]),⟨by simp,by simp,rfl,rfl⟩,aj.keep ⟨ab,ab,ab,ab,ab,trivial⟩ ⟨ab,⟨by(show some (Blk.row _ _ (List.replicate ((z.sets.map ax).length:Int).toNat _) true)=some (Blk.row _ _ _ true);simp[aL];done),rfl⟩,trivial⟩⟩,?_⟩
 rintro⟨k,j0,done⟩ ⟨hk,hj0,hd,hc⟩;simp only at hk hj0 hd hc
 conv=>whnf
 refine ae (λh1=>?_) (λh1=>?_) <;> (rw[h1];conv=>whnf)
 . have hlt:k<z.sets.length:=by simp at h1;omega
   obtain⟨s,hs⟩:∃s,z.sets[k]? =some s:=⟨_,ah hlt⟩
   have hsl:s.set.name.length<=60:=cU (hv s (ao hs));rw[drop_cons hs,bGo]at hc;refine⟨aw k,ax s,aG hs,?_⟩
   conv=>whnf
   refine ⟨Nat, fun j => ⟨[(1, .ptr 1 0), (3, .d (.slice 1 (l.map aL))), (4, .own 13), (5, .d (.int .i64 j)), (6, .d (.int .i64 k)), (7, .d (.str s.set.name))],
       [(1,.box ((aT z).map .d)),(13,.row 9 1 ((done++List.replicate (z.sets.length-k) []).map aL) true)]⟩,
    λj=>j<=l.length/\jd l s.set.name j=jd l s.set.name j0,λj=>l.length-j,⟨j0,⟨hj0,rfl⟩,aj.keep ⟨ab,ab,ab,ab,ab,ab,trivial⟩ ⟨ab,ab,trivial⟩⟩,?_⟩
   rintro j ⟨hj,hadv⟩
   conv=>whnf
   have hrow:k<((done++List.replicate (z.sets.length-k) []).map aL).length:=by simp;omega
   have hrep:List.replicate (z.sets.length-k) ([]:Bs)=List.replicate ((z.sets.length-(k+1))+1) []:=by congr 1;omega
   have hset:∀c',((done++List.replicate (z.sets.length-k) []).map aL).set k (aL c')=((done++[c'])++List.replicate (z.sets.length-(k+1)) []).map aL:=λc' =>by
    rw[hrep, <- Hq done _ c',List.map_set,hd]
   have hsame:(done++List.replicate (z.sets.length-k) []).map aL=((done++[[]])++List.replicate (z.sets.length-(k+1)) []).map aL:=by
    rw[hrep,List.replicate_succ];simp
   have hrk:((done++List.replicate (z.sets.length-k) []).map aL)[k]? =some (aL []):=by
    rw[aM,bW (by omega),List.getElem?_replicate,if_pos (by omega)];rfl
   have hgo:∀c',jd l s.set.name j=j->qT l j s.set.name=c' ->(done++[c'])++bGo l j (z.sets.drop (k+1))=bGo l 0 z.sets:=λc' e e' =>by
    rw[<- hc, <- hadv,e,e',List.append_assoc];rfl
   have hpl:decide ((j:Int)>0)=true->(kV l j).length<=60:=λh0=>hlv _ (ao (xQ hj h0))
   refine ae (λh2=>?_) (λh2=>?_) <;> (rw[h2];conv=>whnf)
   . have hjl:j<l.length:=by simp at h2;omega
     obtain⟨c,hcj⟩:∃c,l[j]? =some c:=⟨_,ah hjl⟩
     refine⟨aw j,aL c,aG hcj,?_⟩
     conv=>whnf
     (refine⟨_,_,Kv c s.set.name (hlv c (ao hcj)) hsl,?_⟩;conv=>whnf)
     refine ae (λh3=>?_) (λh3=>?_) <;> (rw[h3];conv=>whnf)
     . exact⟨j+1,⟨hjl,by rw[Ia hcj h3,hadv]⟩,by(show l.length-(j+1)<l.length-j;omega),aj.keep ⟨ab,ab,ab,⟨an (by omega),rfl⟩,ab,ab,trivial⟩ ⟨ab,ab,trivial⟩⟩
     . have hst:=Ib hcj h3
       repeat' (first
        |(refine⟨(k+1,j,done++[kV l j]),⟨hlt,hj,by simp[hd],hgo _ hst (by simp only[qT, *, if_true,if_false,aB];done)⟩,by(show z.sets.length-(k+1)<z.sets.length-k;omega),aj.keep ⟨ab,ab,ab,ab,⟨an (by omega),rfl⟩,trivial⟩ ⟨ab,⟨by(show some (Blk.row _ _ (List.set _ k (aL (kV l j))) true)=some (Blk.row _ _ _ true);rw[hset]),rfl⟩,trivial⟩⟩;done)
        |(refine⟨(k+1,j,done++[[]]),⟨hlt,hj,by simp[hd],hgo _ hst (by simp only[qT, *, if_true,if_false,aB];done)⟩,by(show z.sets.length-(k+1)<z.sets.length-k;omega),aj.keep ⟨ab,ab,ab,ab,⟨an (by omega),rfl⟩,trivial⟩ ⟨ab,⟨by(show some (Blk.row _ _ ((done++List.replicate (z.sets.length-k) []).map aL) true)=some (Blk.row _ _ _ true);rw[hsame]),rfl⟩,trivial⟩⟩;done)
        |(refine⟨_,_,tQ _ _ hsl (hpl (by assumption)),?_⟩;conv=>whnf)
        |(refine⟨(gW (k:=j) (by assumption) (by omega)).1,aL (kV l j),eo (k:=j) (by assumption) (by omega) (xQ hj (by assumption)),?_⟩;conv=>whnf)
        |(refine⟨aw k,hrow,?_⟩;conv=>whnf)
        |(refine⟨_,hrk,?_⟩;conv=>whnf)
        |(refine⟨(by kernel_rfl:bg _ _=true),?_⟩;conv=>whnf)
        |(refine ae (λh=>?_) (λh=>?_) <;> (rw[h];conv=>whnf))
        |fail)
   . have hst:jd l s.set.name j=j:=Ky (by simp at h2;omega)
     repeat' (first
         |(refine⟨(k+1,j,done++[kV l j]),⟨hlt,hj,by simp[hd],hgo _ hst (by simp only[qT, *, if_true,if_false,aB];done)⟩,by(show z.sets.length-(k+1)<z.sets.length-k;omega),aj.keep ⟨ab,ab,ab,ab,⟨an (by omega),rfl⟩,trivial⟩ ⟨ab,⟨by(show some (Blk.row _ _ (List.set _ k (aL (kV l j))) true)=some (Blk.row _ _ _ true);rw[hset]),rfl⟩,trivial⟩⟩;done)
         |(refine⟨(k+1,j,done++[[]]),⟨hlt,hj,by simp[hd],hgo _ hst (by simp only[qT, *, if_true,if_false,aB];done)⟩,by(show z.sets.length-(k+1)<z.sets.length-k;omega),aj.keep ⟨ab,ab,ab,ab,⟨an (by omega),rfl⟩,trivial⟩ ⟨ab,⟨by(show some (Blk.row _ _ ((done++List.replicate (z.sets.length-k) []).map aL) true)=some (Blk.row _ _ _ true);rw[hsame]),rfl⟩,trivial⟩⟩;done)
         |(refine⟨_,_,tQ _ _ hsl (hpl (by assumption)),?_⟩;conv=>whnf)
         |(refine⟨(gW (k:=j) (by assumption) (by omega)).1,aL (kV l j),eo (k:=j) (by assumption) (by omega) (xQ hj (by assumption)),?_⟩;conv=>whnf)
         |(refine⟨aw k,hrow,?_⟩;conv=>whnf)
         |(refine⟨_,hrk,?_⟩;conv=>whnf)
         |(refine⟨(by kernel_rfl:bg _ _=true),?_⟩;conv=>whnf)
         |(refine ae (λh=>?_) (λh=>?_) <;> (rw[h];conv=>whnf))
         |fail)
 . obtain rfl:k=z.sets.length:=by simp at h1;omega
   refine af rfl ?_;simp only[List.drop_length,bGo,List.append_nil]at hc;show AV.d (.slice 1 ((done++List.replicate (z.sets.length-z.sets.length) []).map aL))=_
   rw[Nat.sub_self,List.replicate_zero,List.append_nil,hc]
end Go.Proofs.YtmaepddmaghpjaaGreatDoor
namespace NP
open NQ Go
theorem oF(cs:List Bs):∀(l:List Signed) (k:Nat),(bGo cs k l).length=l.length
 |[],_=>rfl
 |s::t,k=>by simp[bGo,oF cs t]
def rr(t:Int)(b:Bs):Bool:=(b==[])||((t != 2)&&(t != 1))
def rz(z:aF):List Bool:=(z.sets.zip (ee z)).map λp=>rr p.1.set.type p.2
def jf(b:Bool):List D:=[.bool b]
theorem Pl(done:List Bool)(n:Nat)(c:Bool):(done++List.replicate (n+1) false).set done.length c=(done++[c])++List.replicate n false:=by
 rw[List.replicate_succ,List.set_append];simp
def pf(s:Signed)(b:Bs):Bool :=
 ((!(b==[])&&(s.set.type != 1))&& !(!(b==[])&&(s.set.name==b))) ||
 ((!(b==[])&&(s.set.name==b))&&(s.set.type != 1)&&(s.set.type != 2)&&(s.set.type != 6)&&(s.set.type != 8)) ||
 ((s.set.type==6)&& !(!(b==[])&&(s.set.name==b)))
def nS(z:aF)(i:Nat):Bool:=match z.sets[i]?, (ee z)[i]? with|some s,some b=> !pf s b|_,_=>false
def vK(z:aF):Bool:=(List.range z.sets.length).all (nS z)
def pd(apex:Bs)(s:Signed)(o:Bool):Bool:= !fM s.sigs apex||(!o&&decide ((s.sigs.length:Int)>0))
def nR(z:aF)(i:Nat):Bool:=match z.sets[i]?, (rz z)[i]? with|some s,some o=> !pd z.apex s o|_,_=>false
def vJ(z:aF):Bool:=(List.range z.sets.length).all (nR z)
theorem ma{b:Bool}(h:b=true)(h' :b=false):False:=by rw[h]at h';cases h'
end NP
namespace Go.Proofs.YtmaepddmaghpjaaGreatDoor
open NQ Go NP Go.RowKit
theorem SH(z:aF)(hn:z.sets.length<=100000)(hv:∀s∈z.sets,aq s.set.name=true):NQ.Fn cx 147 [.agg (aT z)] (.d (.slice 1 ((rz z).map jf))) []:=by
 refine aA aO mixed Tryz.func147 (by kernel_rfl) rfl (ag rfl) ?_;conv=>whnf
 (refine⟨_,_,AU z hn hv,?_⟩;conv=>whnf)
 have hb:(ee z).length=z.sets.length:=oF _ _ _;refine⟨by omega,.inl rfl,by omega,by(simp only[ak];omega),by(simp only[ak];omega),?_⟩
 conv=>whnf
 refine ⟨Nat × List Bool, fun x => ⟨[(1, .ptr 1 0), (3, .d (.slice 1 ((ee z).map aL))), (4, .own 12), (5, .d (.int .i64 x.1))],
     [(1,.box ((aT z).map .d)),(12,.row 4 1 ((x.2++List.replicate (z.sets.length-x.1) false).map jf) true)]⟩,
  λx=>x.1<=z.sets.length/\x.2.length=x.1/\x.2++((z.sets.zip (ee z)).drop x.1).map (λp=>rr p.1.set.type p.2)=rz z,λx=>z.sets.length-x.1,
  ⟨(0,[]),⟨by simp,rfl,rfl⟩,aj.keep ⟨ab,ab,ab,ab,trivial⟩ ⟨ab,⟨by(show some (Blk.row _ _ (List.replicate ((z.sets.map ax).length:Int).toNat _) true)=some (Blk.row _ _ _ true);simp[jf];done),rfl⟩,trivial⟩⟩,?_⟩
 rintro⟨k,done⟩ ⟨hk,hd,hc⟩;simp only at hk hd hc
 conv=>whnf
 refine ae (λh1=>?_) (λh1=>?_) <;> (rw[h1];conv=>whnf)
 . have hlt:k<z.sets.length:=by simp at h1;omega
   obtain⟨s,hs⟩:∃s,z.sets[k]? =some s:=⟨_,ah hlt⟩
   obtain⟨b,hb'⟩:∃b,(ee z)[k]? =some b:=⟨_,ah (by omega)⟩
   have hzk:(z.sets.zip (ee z))[k]? =some (s,b):=by rw[List.getElem?_zip_eq_some];exact⟨hs,hb'⟩
   rw[drop_cons hzk,List.map_cons]at hc;have hrow:k<((done++List.replicate (z.sets.length-k) false).map jf).length:=by simp;omega
   have hrep:List.replicate (z.sets.length-k) false=List.replicate ((z.sets.length-(k+1))+1) false:=by congr 1;omega
   have hset:∀c',((done++List.replicate (z.sets.length-k) false).map jf).set k (jf c')=((done++[c'])++List.replicate (z.sets.length-(k+1)) false).map jf:=λc' =>by
    rw[hrep, <- Pl done _ c',List.map_set,hd]
   have hrk:((done++List.replicate (z.sets.length-k) false).map jf)[k]? =some (jf false):=by
    rw[aM,bW (by omega),List.getElem?_replicate,if_pos (by omega)];rfl
   have hgo:∀c',rr s.set.type b=c' ->(done++[c'])++((z.sets.zip (ee z)).drop (k+1)).map (λp=>rr p.1.set.type p.2)=rz z:=λc' e=>by
    rw[<- hc, <- e,List.append_assoc];rfl
   have e0:(⟨#[]⟩:ByteArray).data.toList=[]:=rfl
   repeat' (first
    |(refine⟨(k+1,done++[true]),⟨hlt,by simp[hd],hgo _ (by(try simp only[e0]at *);simp only[rr, *, if_true,if_false,aB];done)⟩,by(show z.sets.length-(k+1)<z.sets.length-k;omega),aj.keep ⟨ab,ab,ab,⟨an (by omega),rfl⟩,trivial⟩ ⟨ab,⟨by(show some (Blk.row _ _ (List.set _ k (jf true)) true)=some (Blk.row _ _ _ true);rw[hset]),rfl⟩,trivial⟩⟩;done)
    |(refine⟨(k+1,done++[false]),⟨hlt,by simp[hd],hgo _ (by(try simp only[e0]at *);simp only[rr, *, if_true,if_false,aB];done)⟩,by(show z.sets.length-(k+1)<z.sets.length-k;omega),aj.keep ⟨ab,ab,ab,⟨an (by omega),rfl⟩,trivial⟩ ⟨ab,⟨by(show some (Blk.row _ _ (List.set _ k (jf false)) true)=some (Blk.row _ _ _ true);rw[hset]),rfl⟩,trivial⟩⟩;done)
    |(refine⟨(k+1,done++[s.set.type != 1]),⟨hlt,by simp[hd],hgo _ (by(try simp only[e0]at *);simp only[rr, *, if_true,if_false,aB];done)⟩,by(show z.sets.length-(k+1)<z.sets.length-k;omega),aj.keep ⟨ab,ab,ab,⟨an (by omega),rfl⟩,trivial⟩ ⟨ab,⟨by(show some (Blk.row _ _ (List.set _ k (jf (s.set.type != 1))) true)=some (Blk.row _ _ _ true);rw[hset]),rfl⟩,trivial⟩⟩;done)
    |(refine⟨(by kernel_rfl:bg _ _=true),?_⟩;conv=>whnf)
    |(refine ae (λh=>?_) (λh=>?_) <;> (rw[h];conv=>whnf))
    |(refine⟨aw k,ax s,aG hs,?_⟩;conv=>whnf)
    |(refine⟨aw k,aL b,aG hb',?_⟩;conv=>whnf)
    |(refine⟨aw k,hrow,?_⟩;conv=>whnf)
    |(refine⟨_,hrk,?_⟩;conv=>whnf)
    |fail)
 . obtain rfl:k=z.sets.length:=by simp at h1;omega
   refine af rfl ?_;rw[List.drop_eq_nil_of_le (by simp;omega),List.map_nil,List.append_nil]at hc;show AV.d (.slice 1 ((done++List.replicate (z.sets.length-z.sets.length) false).map jf))=_
   rw[Nat.sub_self,List.replicate_zero,List.append_nil,hc]
theorem QT(z:aF)(hn:z.sets.length<=100000)(hv:∀s∈z.sets,aq s.set.name=true):NQ.Fn cx 104 [.agg (aT z)] (.d (.bool (vK z))) []:=by
 refine aA aO mixed Tryz.func104 (by kernel_rfl) rfl (ag rfl) ?_;conv=>whnf
 (refine⟨_,_,AU z hn hv,?_⟩;conv=>whnf)
 have hb:(ee z).length=z.sets.length:=oF _ _ _;have hyes:vK z=(List.range z.sets.length).all (nS z):=rfl;refine⟨Nat,λk=>⟨[(1,.ptr 1 0),(3,.d (.slice 1 ((ee z).map aL))),(4,.d (.int .i64 k))],[(1,.box ((aT z).map .d))]⟩,λk=>k<=z.sets.length/\(List.range k).all (nS z)=true,λk=>z.sets.length-k,⟨0,⟨by omega,rfl⟩,aj.keep ⟨ab,ab,ab,trivial⟩ ⟨ab,trivial⟩⟩,λk ⟨hk,hall⟩=>?_⟩;(conv=>whnf);refine ae (λh1=>?_) (λh1=>?_) <;> (rw[h1];conv=>whnf)
 . have hlt:k<z.sets.length:=by simp at h1;omega
   obtain⟨s,hs⟩:∃s,z.sets[k]? =some s:=⟨_,ah hlt⟩
   obtain⟨b,hb'⟩:∃b,(ee z)[k]? =some b:=⟨_,ah (by omega)⟩
   have hat:nS z k= !pf s b:=by simp only[nS,hs,hb']
   have hno:nS z k=false->vK z=false:=λhh=>by rw[hyes,bF hlt hh]
   clear hb;refine⟨aw k,ax s,aG hs,?_⟩
   conv=>whnf
   repeat' (first
    |exact(ma (b:=s.set.type != 1) (by assumption) (by assumption)).elim
    |exact(ma (b:= !(b==[])) (by assumption) (by assumption)).elim
    |exact(ma (b:=s.set.name==b) (by assumption) (by assumption)).elim
    |exact(Bv (b:=s.set.name==b) (by assumption) (by assumption)).elim
    |exact(ma (b:= !(s.set.name==b)) (by assumption) (by assumption)).elim
    |(refine⟨(by kernel_rfl:bg _ _=true),?_⟩;conv=>whnf)
    |(refine af rfl ?_;show AV.d (D.bool false)=_;(try simp only[ak]at *);rw[hno (by rw[hat];simp only[pf, *, if_true,if_false,aB])];done)
    |(refine⟨k+1,⟨by omega,?_⟩,by(show z.sets.length-(k+1)<z.sets.length-k;omega),aj.keep ⟨ab,ab,⟨an (by omega),rfl⟩,trivial⟩ ⟨ab,trivial⟩⟩;rw[bQ,hall,hat];((try simp only[ak]at *);simp only[pf, *, if_true,if_false,aB];done))
    |(refine ae (λh=>?_) (λh=>?_) <;> (rw[h];conv=>whnf))
    |(refine⟨aw k,aL b,aG hb',?_⟩;conv=>whnf)
    |fail)
 . (refine af rfl ?_;obtain rfl:k=z.sets.length:=(by simp at h1;omega);show AV.d (D.bool true)=_;rw[hyes,hall])
theorem QO(z:aF)(hn:z.sets.length<=100000)(hv:∀s∈z.sets,aq s.set.name=true):NQ.Fn cx 105 [.agg (aT z)] (.d (.bool (vJ z))) []:=by
 refine aA aO mixed Tryz.func105 (by kernel_rfl) rfl (ag rfl) ?_;conv=>whnf
 (refine⟨_,_,SH z hn hv,?_⟩;conv=>whnf)
 have hb:(rz z).length=z.sets.length:=by have:=oF (bD z) z.sets 0;unfold rz ee;simp;omega
 have hyes:vJ z=(List.range z.sets.length).all (nR z):=rfl;refine⟨Nat,λk=>⟨[(1,.ptr 1 0),(3,.d (.slice 1 ((rz z).map jf))),(4,.d (.int .i64 k))],[(1,.box ((aT z).map .d))]⟩,λk=>k<=z.sets.length/\(List.range k).all (nR z)=true,λk=>z.sets.length-k,⟨0,⟨by omega,rfl⟩,aj.keep ⟨ab,ab,ab,trivial⟩ ⟨ab,trivial⟩⟩,λk ⟨hk,hall⟩=>?_⟩;(conv=>whnf);refine ae (λh1=>?_) (λh1=>?_) <;> (rw[h1];conv=>whnf)
 . have hlt:k<z.sets.length:=by simp at h1;omega
   obtain⟨s,hs⟩:∃s,z.sets[k]? =some s:=⟨_,ah hlt⟩
   obtain⟨o,ho⟩:∃o,(rz z)[k]? =some o:=⟨_,ah (by omega)⟩
   have hat:nR z k= !pd z.apex s o:=by simp only[nR,hs,ho]
   have hno:nR z k=false->vJ z=false:=λhh=>by rw[hyes,bF hlt hh]
   clear hb
   repeat' (first
    |(refine⟨(by kernel_rfl:bg _ _=true),?_⟩;conv=>whnf)
    |(refine af rfl ?_;show AV.d (D.bool false)=_;(try simp only[ak]at *);rw[hno (by rw[hat];simp only[pd, *, if_true,if_false,aB])];done)
    |(refine⟨k+1,⟨by omega,?_⟩,by(show z.sets.length-(k+1)<z.sets.length-k;omega),aj.keep ⟨ab,ab,⟨an (by omega),rfl⟩,trivial⟩ ⟨ab,trivial⟩⟩;rw[bQ,hall,hat];((try simp only[ak]at *);simp only[pd, *, if_true,if_false,aB];done))
    |(refine⟨_,_,Oz _ _,?_⟩;conv=>whnf)
    |(refine ae (λh=>?_) (λh=>?_) <;> (rw[h];conv=>whnf))
    |(refine⟨aw k,ax s,aG hs,?_⟩;conv=>whnf)
    |(refine⟨aw k,jf o,aG ho,?_⟩;conv=>whnf)
    |fail)
 . (refine af rfl ?_;obtain rfl:k=z.sets.length:=(by simp at h1;omega);show AV.d (D.bool true)=_;rw[hyes,hall])
end Go.Proofs.YtmaepddmaghpjaaGreatDoor
namespace NP
open NQ Go
def lO(al:Bs)(s:Signed):Bs:=if (s.set.type==3)=true then s.set.name else al
def se(k:Nat)(s p:Signed):Bs:=if (decide ((k:Int)>0)&&(p.set.name==s.set.name))=true then s.set.name else[]
def vW(al last:Bs)(t:Int):Bool:=(!(last==[])&&(t==3))||((!(last==[])&&(last==al))&&(t != 3)&&(t != 8))
def yd(z:aF):Bs->Nat->List Signed->Bool
 |_,_,[]=>true
 |al,k,s::t=> !vW (lO al s) (se k s ((z.sets[k-1]?).getD s)) s.set.type&&yd z (lO al s) (k+1) t
def sf(z:aF):Bool:=yd z [] 0 z.sets
def si(z:aF):Bool:=ordered z&&iu (λt=>cJ z.sets ⟨z.apex,t⟩) z&&sf z&&vK z&&vJ z
end NP
namespace Go.Proofs.YtmaepddmaghpjaaGreatDoor
open NQ Go NP Go.RowKit
theorem PF(z:aF)(hn:z.sets.length<=100000):NQ.Fn cx 103 [.agg (aT z)] (.d (.bool (sf z))) []:=by
 refine aA aO mixed Tryz.func103 (by kernel_rfl) rfl (ag rfl) ?_;conv=>whnf
 refine⟨Nat×Bs,λx=>⟨[(1,.ptr 1 0),(3,.d (.str x.2)),(4,.d (.int .i64 x.1))],[(1,.box ((aT z).map .d))]⟩,
  λx=>x.1<=z.sets.length/\yd z x.2 x.1 (z.sets.drop x.1)=sf z,λx=>z.sets.length-x.1,
  ⟨(0,[]),⟨by simp,rfl⟩,aj.keep ⟨ab,ab,ab,trivial⟩ ⟨ab,trivial⟩⟩,?_⟩
 rintro⟨k,al⟩ ⟨hk,hc⟩;simp only at hk hc
 conv=>whnf
 refine ae (λh1=>?_) (λh1=>?_) <;> (rw[h1];conv=>whnf)
 . have hlt:k<z.sets.length:=by simp at h1;omega
   obtain⟨s,hs⟩:∃s,z.sets[k]? =some s:=⟨_,ah hlt⟩
   obtain⟨p,hp⟩:∃p,z.sets[k-1]? =some p:=⟨_,ah (by omega)⟩
   rw[drop_cons hs,yd,hp,Option.getD_some]at hc;have e0:(⟨#[]⟩:ByteArray).data.toList=[]:=rfl;have e1:(([]:Bs)==[])=true:=rfl;clear h1
   repeat' (first
    |exact(ma (b:=s.set.type==3) (by assumption) (by assumption)).elim
    |exact(ma (b:= !(s.set.name==[])) (by assumption) (by assumption)).elim
    |(refine⟨(by kernel_rfl:bg _ _=true),?_⟩;conv=>whnf)
    |(refine af rfl ?_;show AV.d (D.bool false)=_;(try simp only[e0]at *);simp only[vW,lO,se, *, if_true,if_false,aB]at hc;rw[<- hc];done)
    |(refine⟨(k+1,al),⟨hlt,(by(try simp only[e0]at *);simp only[vW,lO,se, *, if_true,if_false,aB]at hc;exact hc)⟩,by(show z.sets.length-(k+1)<z.sets.length-k;omega),aj.keep ⟨ab,ab,⟨an (by omega),rfl⟩,trivial⟩ ⟨ab,trivial⟩⟩;done)
    |(refine⟨(k+1,s.set.name),⟨hlt,(by(try simp only[e0]at *);simp only[vW,lO,se, *, if_true,if_false,aB]at hc;exact hc)⟩,by(show z.sets.length-(k+1)<z.sets.length-k;omega),aj.keep ⟨ab,ab,⟨an (by omega),rfl⟩,trivial⟩ ⟨ab,trivial⟩⟩;done)
    |(refine ae (λh=>?_) (λh=>?_) <;> (rw[h];conv=>whnf))
    |(refine⟨(gW (by assumption) (by omega)).1,ax p,eo (by assumption) (by omega) hp,?_⟩;conv=>whnf)
    |(refine⟨aw k,ax s,aG hs,?_⟩;conv=>whnf)
    |fail)
 . obtain rfl:k=z.sets.length:=by simp at h1;omega
   refine af rfl ?_;rw[List.drop_length,yd]at hc;rw[<- hc];rfl
theorem MP(z:aF)(hn:z.sets.length<=100000):NQ.Fn cx 52 [.agg (aT z)] (.d (.bool (si z))) []:=by
 refine aA aO mixed Tryz.func52 (by kernel_rfl) rfl (ag rfl) ?_;conv=>whnf
 (refine⟨_,_,SE z,?_⟩;conv=>whnf)
 (refine ae (λh=>?_) (λh=>?_) <;> (rw[h];conv=>whnf))
 . have ho:=Ordered.of h
   repeat' (first|(refine⟨_,_,SS z hn,?_⟩;conv=>whnf)|(refine⟨_,_,PF z hn,?_⟩;conv=>whnf)|(refine⟨_,_,QT z hn ho.name,?_⟩;conv=>whnf)|(refine⟨_,_,QO z hn ho.name,?_⟩;conv=>whnf)|(refine⟨(by kernel_rfl:bg _ _=true),?_⟩;conv=>whnf)|(refine ae (λh=>?_) (λh=>?_) <;> (rw[h];conv=>whnf))|fail)
   all_goals first
    |(refine af rfl ?_;show AV.d (D.bool false)=_;(try simp only[ak]at *);simp only[si, *, if_true,if_false,aB];done)
    |(refine af rfl ?_;show AV.d (D.bool _)=_;simp only[si, *, if_true,if_false,aB];done)
    |fail
 . (refine af rfl ?_;show AV.d (D.bool false)=_;(try simp only[ak]at *);simp only[si, *, if_true,if_false,aB];done)
end Go.Proofs.YtmaepddmaghpjaaGreatDoor
namespace NP
open NQ Go
theorem Oq(s:Signed)(b:Bs):pf s b=jW s b:=by
 unfold pf jW;by_cases hb:b=[]
 . subst hb;simp
 . have h1:(b==[])=false:=by simpa using hb
   by_cases hn:s.set.name=b
   . subst hn;simp only[h1,beq_self_eq_true,om,gM,du,qM,iE,dF,kF,dI,if_false,if_true];rw[Bool.eq_iff_iff];simp;exact⟨λ⟨⟨⟨a,b⟩,c⟩,d⟩=>⟨⟨⟨b,c⟩,d⟩,a⟩,λ⟨⟨⟨b,c⟩,d⟩,a⟩=>⟨⟨⟨a,b⟩,c⟩,d⟩⟩
   . have h2:(s.set.name==b)=false:=by simpa using hn
     have h3:(b==s.set.name)=false:=by simpa using λe=>hn e.symm
     simp only[h1,h2,h3,om,gM,du,iE,iF,kF,dI,if_false];rw[Bool.eq_iff_iff];simp;omega
theorem Oo{z:aF}(h:ee z=cO z):vK z=ny z (cO z):=by
 unfold vK ny;have:nS z=cutAt z (cO z):=funext λi=>by
  unfold nS cutAt;rw[h];cases z.sets[i]? with
  |none=>rfl
  |some s =>
   cases (cO z)[i]? with
   |none=>rfl
   |some b=>exact congrArg Bool.not (Oq s b)
 rw[this]
theorem Oj(apex:Bs)(s:Signed)(b:Bs):(!pd apex s (rr s.set.type b))=(!mH s b&&fM s.sigs apex):=by
 unfold pd mH rr;cases fM s.sigs apex <;> cases (b==[]) <;> cases decide ((s.sigs.length:Int)>0) <;> cases h2:(s.set.type==2) <;> cases h1:(s.set.type==1) <;> simp[bne,h1,h2]
theorem Cj(n:Nat)(f g:Nat->Bool):(List.range n).all (λi=>f i&&g i)=((List.range n).all f&&(List.range n).all g):=by
 rw[Bool.eq_iff_iff];simp only[ay,av];exact⟨λh=>⟨λi hi=>(h i hi).1,λi hi=>(h i hi).2⟩,λh i hi=>⟨h.1 i hi,h.2 i hi⟩⟩
theorem Oi{z:aF}(h:ee z=cO z):vJ z=(oU z (cO z)&&nC z):=by
 unfold vJ oU nC;rw[<- Cj];have hb:(cO z).length=z.sets.length:=tZ _ _ _;rw[Bool.eq_iff_iff,av,av];have heq:∀i,i<z.sets.length->nR z i=(oT z (cO z) i&&lE z i):=by
  intro i hi;obtain⟨s,hs⟩:∃s,z.sets[i]? =some s:=⟨_,ah hi⟩
  obtain⟨b,hb'⟩:∃b,(cO z)[i]? =some b:=⟨_,ah (by omega)⟩
  have ho:(rz z)[i]? =some (rr s.set.type b):=by
   unfold rz;rw[aM,h,(List.getElem?_zip_eq_some.2 ⟨hs,hb'⟩:(z.sets.zip (cO z))[i]? =some (s,b))];rfl
  simp only[nR,oT,lE,hs,hb',ho];exact Oj _ _ _
 exact⟨λk i hi=>by rw[<- heq i (List.mem_range.1 hi)];exact k i hi,λk i hi=>by rw[heq i (List.mem_range.1 hi)];exact k i hi⟩
theorem pY{a z:Bs}(h:aD a z=true):aI z a<=0:=by
 rw[dy]at h;obtain⟨t,ht⟩:=h;unfold aI;rw[<- ht];exact Fz bO _ _
theorem pZ{a b c z:Bs}(ha:aD a z=true)(hc:aD c z=true)(h1:aI a b<=0)(h2:aI b c<=0):aD b z=true:=by
 rw[dy]at ha hc ⊢;obtain⟨s,hs⟩:=ha;obtain⟨t,ht⟩:=hc;unfold aI at h1 h2;rw[<- hs]at h1;rw[<- ht]at h2;exact qi bO _ _ _ _ h1 h2
theorem fI(a:Bs):aD a a=true:=by rw[dy];exact List.prefix_refl _
theorem KP{a b:Bs}(h:aI a b<0):aI a b= -1:=by rcases bo.range a b with e|e|e <;> omega
theorem ND{a b c:Bs}(h:aI a b<0)(k:aI b c<0):aI a c<0:=by
 have:=bo.lt _ _ _ (KP h) (KP k);omega
theorem GK{a b:Bs}(h:aI a b<0):¬aI b a<=0:=by have:=bo.anti a b;omega
abbrev Asc(l:List Bs):Prop:=l.Pairwise λa b=>aI a b<0
theorem Dk(apex:Bs):∀(l:List Signed),dX l->Asc (cq apex l)
 |[],_=>List.Pairwise.nil
 |x::t,h=>by
  have ih:=Dk apex t h.tail;unfold cq;split
  . rename_i hx;refine List.Pairwise.cons ?_ ih;intro c hc;have hm:∀(l:List Signed) c,c∈cq apex l-> ∃s∈l,s.set.name=c/\s.set.type=2:=by
     intro l;induction l with
     |nil=>intro c h;cases h
     |cons s l ih =>
      intro c h;unfold cq at h;split at h
      . rename_i hs;rcases List.mem_cons.1 h with rfl|h
        . refine⟨s,List.mem_cons_self .., rfl,?_⟩;unfold db at hs;simp at hs;exact hs.1
        . obtain⟨y,hy,e⟩:=ih c h;exact⟨y,aK _ hy,e⟩
      . obtain⟨y,hy,e⟩:=ih c h;exact⟨y,aK _ hy,e⟩
    obtain⟨s,hs,e1,e2⟩:=hm t c hc;have hlt:=lX h s hs;have hx2:x.set.type=2:=by unfold db at hx;simp at hx;exact hx.1
    unfold Signed.place at hlt;rw[e1,e2,hx2]at hlt;unfold cpl lex at hlt;split at hlt
    . have:cR 2 2=0:=rfl;simp only at hlt;rw[this]at hlt;omega
    . exact hlt
  . exact ih
def wZ(l:List Bs):Prop:= ∀a∈l,∀b∈l,aD a b=true->a=b
theorem CS{l:List Bs}(h:Asc l)(hne:l.length≠0):∀a∈l,aI a (nD l)<=0:=by
 intro a ha;obtain⟨i,hi,rfl⟩:=List.getElem_of_mem ha;rw[nD,ah (by omega),Option.getD_some];by_cases e:i=l.length-1
 . subst e;rw[(bo.zero _ _).2 rfl];exact Int.le_refl _
 . have:=List.pairwise_iff_getElem.1 h i (l.length-1) hi (by omega) (by omega);omega
theorem uN:∀(rest acc:List Bs),Asc (acc++rest)->wZ acc->Asc (kg acc rest)/\wZ (kg acc rest)/\(∀a∈acc,a∈kg acc rest)/\(∀c∈rest,∃h∈kg acc rest,aD c h=true)
 |[],acc,h,ha=>⟨by rw[kg];simpa using h,ha,λa h=>h,λc h=>by cases h⟩
 |c::t,acc,h,ha=>by
  have hacc:Asc acc:=(List.pairwise_append.1 h).1;have hlt:∀a∈acc,aI a c<0:=λa hm=>(List.pairwise_append.1 h).2.2 a hm c (List.mem_cons_self ..)
  rw[kg];by_cases hn:qn acc c=true
  . rw[if_pos hn];have hno:∀a∈acc,aD c a=false:=by
     intro a hm;cases hu:aD c a with
     |false=>rfl
     |true =>
      have hne:acc.length≠0:=by cases acc with|nil=>cases hm|cons=>simp
      have h1:=CS hacc hne a hm;have h2:=hlt _ (lS hne);have h3:=pZ (fI a) hu h1 (by omega);have h4:=ha _ (lS hne) _ hm h3;unfold qn at hn;rw[h4,hu]at hn;simp at hn;exact absurd (by simpa using hn) hne
    have hanti:wZ (acc++[c]):=by
     intro a hma b hmb hu;rcases List.mem_append.1 hma with qa|qa <;> rcases List.mem_append.1 hmb with qb|qb
     . exact ha a qa b qb hu
     . simp at qb;subst qb;exact absurd (pY hu) (GK (hlt a qa))
     . simp at qa;subst qa;rw[hno b qb]at hu;cases hu
     . simp at qa qb;rw[qa,qb]
    obtain⟨r1,r2,r3,r4⟩:=uN t (acc++[c]) (by simpa using h) hanti;refine⟨r1,r2,λa hm=>r3 a (List.mem_append_left _ hm),λx hx=>?_⟩;rcases List.mem_cons.1 hx with rfl|hx
    . exact⟨x,r3 x (by simp),fI x⟩
    . exact r4 x hx
  . rw[if_neg hn];have hne:acc.length≠0:=λe=>hn (by unfold qn;rw[e];rfl)
    have hu:aD c (nD acc)=true:=by
     unfold qn at hn;simp at hn;exact hn.2
    have h' :Asc (acc++t):=by
     have h:=List.pairwise_append.1 h;refine List.pairwise_append.2 ?_;exact⟨h.1,(List.pairwise_cons.1 h.2.1).2,λa hm b hb=>h.2.2 a hm b (aK _ hb)⟩
    obtain⟨r1,r2,r3,r4⟩:=uN t acc h' ha;refine⟨r1,r2,r3,λx hx=>?_⟩;rcases List.mem_cons.1 hx with rfl|hx
    . exact⟨_,r3 _ (lS hne),hu⟩
    . exact r4 x hx
def spec(H:List Bs)(n:Bs):Bs:=(H.find? λh=>aD n h).getD []
theorem lZ{H:List Bs}(hA:Asc H)(ha:wZ H){n h:Bs}(hm:h∈H)(hu:aD n h=true):spec H n=h:=by
 unfold spec;cases hf:H.find? (λh=>aD n h)with
 |none=>have:=List.find?_eq_none.1 hf h hm;rw[hu]at this;exact absurd rfl this
 |some g =>
  have hg:=List.find?_some hf;have hgm:=List.mem_of_find?_eq_some hf;show g=h
  have h1:=pY hu;have h2:=pY hg;rcases bo.range g h with e|e|e
  . exact(ha h hm g hgm (pZ (fI g) hg (by omega) h1)).symm
  . exact(bo.zero _ _).1 e
  . have:=bo.anti g h;exact ha g hgm h hm (pZ (fI h) hu (by omega) h2)
theorem qG{H:List Bs}{n:Bs}(h:∀x∈H,aD n x=false):spec H n=[]:=by
 unfold spec;rw[List.find?_eq_none.2 λx hx=>by rw[h x hx];simp];rfl
def cnt(H:List Bs)(n:Bs):Nat:=(H.takeWhile λc=>decide (aI c n<=0)).length
theorem Kx{H:List Bs}{n:Bs}{k:Nat}(hk:k<=H.length)(hpre:∀c∈H.take k,aI c n<=0):jd H n k=cnt H n:=by
 unfold jd cnt
 conv=>rhs;rw[<- List.take_append_drop k H]
 rw[List.takeWhile_append_of_pos (by intro a ha;simpa using hpre a ha),List.length_append,List.length_take];omega
theorem KT(H:List Bs)(n:Bs):cnt H n<=H.length:=by
 unfold cnt;exact(List.takeWhile_sublist _).length_le
theorem ML{α:Type}{p:α->Bool}:∀{l:List α} {x:α},x∈l.takeWhile p->p x=true
 |[],x,h=>by cases h
 |y::t,x,h=>by
  rw[List.takeWhile_cons]at h;split at h
  . rcases List.mem_cons.1 h with rfl|h
    . assumption
    . exact ML h
  . cases h
theorem Dd(H:List Bs)(n:Bs):∀c∈H.take (cnt H n),aI c n<=0:=by
 intro c hc;have:H.take (cnt H n)=H.takeWhile λc=>decide (aI c n<=0):=by
  unfold cnt;exact(List.prefix_iff_eq_take.1 (List.takeWhile_prefix _)).symm
 rw[this]at hc;have:=ML hc;simpa using this
theorem PD(H:List Bs)(n:Bs):H.take (cnt H n)=H.takeWhile λc=>decide (aI c n<=0):=by
 unfold cnt;exact(List.prefix_iff_eq_take.1 (List.takeWhile_prefix _)).symm
theorem wg{a b c:Bs}(h:aI a b<0)(k:aI b c<=0):aI a c<=0:=by
 rcases bo.range b c with e|e|e
 . have:=ND h (by omega:aI b c<0);omega
 . rw[<- (bo.zero _ _).1 e];omega
 . omega
theorem NC{a b c:Bs}(h:aI a b<=0)(k:aI b c<=0):aI a c<=0:=by
 rcases bo.range a b with e|e|e
 . exact wg (by omega) k
 . rw[(bo.zero _ _).1 e];exact k
 . omega
theorem Hb{n h:Bs}(hle:aI h n<=0):∀{H:List Bs},Asc H->h∈H->h∈H.takeWhile λc=>decide (aI c n<=0)
 |[],_,hm=>by cases hm
 |x::t,hA,hm=>by
  rcases List.mem_cons.1 hm with rfl|hm
  . rw[List.takeWhile_cons,if_pos (by simpa using hle)];exact List.mem_cons_self ..
  . have hx:=(List.pairwise_cons.1 hA).1 h hm;rw[List.takeWhile_cons,if_pos (by simpa using wg hx hle)];exact aK _ (Hb hle (List.pairwise_cons.1 hA).2 hm)
theorem KL{H:List Bs}(hA:Asc H)(ha:wZ H)(n:Bs):qT H (cnt H n) n=spec H n:=by
 have hpv:cnt H n≠0->kV H (cnt H n)=nD (H.take (cnt H n))/\(H.take (cnt H n)).length≠0:=λh0=>by
  have hl:=KT H n;have e:(H.take (cnt H n)).length=cnt H n:=by rw[List.length_take];omega
  refine⟨?_,by omega⟩;unfold kV nD;rw[e,List.getElem?_take,if_pos (by omega)]
 by_cases hex:∃h∈H,aD n h=true
 . obtain⟨h,hm,hu⟩:=hex;have hmem:=Hb (pY hu) hA hm;rw[<- PD]at hmem;have h0:cnt H n≠0:=λe=>by rw[e]at hmem;cases hmem
   obtain⟨e1,e2⟩:=hpv h0;have hAt:Asc (H.take (cnt H n)):=hA.sublist (List.take_sublist _ _);have h1:=CS hAt e2 h hmem;have hgm:=lS e2;have h2:=Dd H n _ hgm;have h3:=ha _ (List.mem_of_mem_take hgm) _ hm (pZ (fI h) hu h1 h2);have hpos:decide (((cnt H n:Nat):Int)>0)=true:=by simp;omega
   rw[lZ hA ha hm hu,qT,e1,h3,hu,hpos];rfl
 . have hno:∀x∈H,aD n x=false:=λx hx=>by
    cases hu:aD n x with
    |false=>rfl
    |true=>exact absurd ⟨x,hx,hu⟩ hex
   rw[qG hno];by_cases h0:cnt H n=0
   . rw[qT,h0];rfl
   . obtain⟨e1,e2⟩:=hpv h0;rw[qT,e1,hno _ (List.mem_of_mem_take (lS e2)),iE];rfl
theorem wL{l:List Signed}{x:Signed}(h:dX (x::l)):∀s∈l,aI x.set.name s.set.name<=0:=λs hs=>by
 have hlt:=lX h s hs;unfold cpl lex Signed.place at hlt;simp only at hlt;split at hlt
 . omega
 . omega
theorem CW{H:List Bs}(hA:Asc H)(ha:wZ H):∀(l:List Signed) (k:Nat),dX l->k<=H.length->(∀s∈l,∀c∈H.take k,aI c s.set.name<=0)->bGo H k l=l.map λs=>spec H s.set.name
 |[],_,_,_,_=>rfl
 |s::t,k,hr,hk,hp=>by
  have e:=Kx hk (hp s (List.mem_cons_self ..));rw[bGo,e,KL hA ha,List.map_cons]
  congr 1
  refine CW hA ha t _ hr.tail (KT _ _) λx hx c hc=>?_
  exact NC (Dd _ _ c hc) (wL hr x hx)
theorem kP{z:aF}(h:Ordered z):Asc (bD z)/\wZ (bD z)/\ ∀c∈cq z.apex z.sets,∃g∈bD z,aD c g=true:=by
 obtain⟨h1,h2,_,h4⟩:=uN (cq z.apex z.sets) [] (by simpa using Dk z.apex z.sets h.rising) (λa ha=>by cases ha);exact⟨h1,h2,h4⟩
theorem tX{z:aF}(h:Ordered z):ee z=z.sets.map λs=>spec (bD z) s.set.name:=by
 obtain⟨h1,h2,_⟩:=kP h;exact CW h1 h2 z.sets 0 h.rising (by omega) λs _ c hc=>by cases hc
theorem qA:∀{l:List Signed},dX l->l.Pairwise λa b=>aI a.set.name b.set.name<=0
 |[],_=>List.Pairwise.nil
 |x::t,h=>List.Pairwise.cons (wL h) (qA h.tail)
theorem xq(apex n:Bs):∀(l:List Signed),dJ apex l n=true ↔ n∈cq apex l
 |[]=>by simp[dJ,cq]
 |s::t=>by
  have ih:=xq apex n t;unfold dJ at ih ⊢;unfold cq;rw[List.any_cons,Bool.or_eq_true,ih];by_cases h:db apex s=true
  . rw[if_pos h,h,du,List.mem_cons,beq_iff_eq];exact⟨λk=>k.imp (λe=>e.symm) id,λk=>k.imp (λe=>e.symm) id⟩
  . have h' :db apex s=false:=by simpa using h
    rw[if_neg h,h'];simp
theorem Ps(H:List Bs)(n:Bs):spec H n=[]\/spec H n∈H:=by
 unfold spec;cases hf:H.find? (λh=>aD n h)with
 |none=>exact .inl rfl
 |some g=>exact .inr (List.mem_of_find?_eq_some hf)
theorem pE{z:aF}{h:Bs}(hm:h∈bD z):h∈cq z.apex z.sets:=by
 rcases xD _ _ _ hm with q|q
 . cases q
 . exact q
theorem oK{z:aF}(ho:Ordered z){h:Bs}(hm:h∈bD z):aq h=true:=by
 obtain⟨s,hs,e⟩:=lR _ _ _ (pE hm);rw[<- e];exact ho.name s hs
theorem MC{z:aF}(ho:Ordered z){pre t:List Signed}{s:Signed}{c:Bs}(hz:pre++s::t=z.sets)
 (hc:(pre=[]/\c=[])\/ ∃p y,pre=p++[y]/\c=spec (bD z) y.set.name):jJ (dJ z.apex z.sets) c s.set.name=spec (bD z) s.set.name:=by
 obtain⟨hA,ha,hcov⟩:=kP ho;have hsm:s∈z.sets:=by rw[<- hz];simp
 have vs:=ho.name s hsm;have hcH:c=[]\/c∈bD z:=by
  rcases hc with ⟨_,e⟩|⟨p,y,_,e⟩
  . exact .inl e
  . rw[e];exact Ps _ _
 have hu:∀h∈bD z,(bq s.set.name h).1=aD s.set.name h:=λh hm=>by
  unfold bq;rw[if_pos ⟨vs,oK ho hm⟩]
 have hne:∀h∈bD z,(h==[])=false:=λh hm=>by
  have:=oK ho hm;cases h with
  |nil=>exact absurd this (by decide)
  |cons=>rfl
 have hpw:=qA ho.rising;rw[<- hz]at hpw;obtain⟨q1,q2,q3⟩:=List.pairwise_append.1 hpw;by_cases hex:∃h∈bD z,aD s.set.name h=true
 . obtain⟨h,hm,hun⟩:=hex;rw[lZ hA ha hm hun];by_cases hch:c=h
   . subst hch;unfold jJ;simp only[hne c hm,hu c hm,hun,qM,iE,iF,dI,if_false]
   . have hnh:s.set.name=h:=by
      refine Classical.byContradiction λhnn=>hch ?_
      have hle:=pY hun;have hlt:aI h s.set.name<0:=by
       rcases bo.range h s.set.name with e|e|e
       . omega
       . exact absurd ((bo.zero _ _).1 e).symm hnn
       . omega
      obtain⟨x,hx,ex⟩:=lR _ _ _ (pE hm);rw[<- hz]at hx;have hxp:x∈pre:=by
       rcases List.mem_append.1 hx with k|k
       . exact k
       . rcases List.mem_cons.1 k with rfl|k
         . exact absurd ex hnn
         . have:=(List.pairwise_cons.1 q2).1 x k;rw[ex]at this;exact absurd this (GK hlt)
      rcases hc with ⟨e,_⟩|⟨p,y,e,ec⟩
      . rw[e]at hxp;cases hxp
      . have hys:=q3 y (by rw[e];simp) s (List.mem_cons_self ..);have hxy:aI x.set.name y.set.name<=0:=by
         rw[e]at hxp q1;rcases List.mem_append.1 hxp with k|k
         . exact(List.pairwise_append.1 q1).2.2 x k y (by simp)
         . simp at k;subst k;rw[(bo.zero _ _).2 rfl];exact Int.le_refl _
        rw[ex]at hxy;rw[ec,lZ hA ha hm (pZ (fI h) hun hxy hys)]
     have hcut:dJ z.apex z.sets s.set.name=true:=(xq _ _ _).2 (by rw[hnh];exact pE hm);have hc' :(if (!(c==[])&& !(bq s.set.name c).1)=true then[]else c)=[]:=by
      rcases hcH with e|e
      . subst e;rfl
      . have:aD s.set.name c=false:=by
         cases hk:aD s.set.name c with
         |false=>rfl
         |true=>exact absurd (ha h hm c e (by rw[<- hnh];exact hk)).symm hch
        rw[hne c e,hu c e,this];rfl
     unfold jJ;simp only[hc',hcut];exact hnh
 . have hno:∀x∈bD z,aD s.set.name x=false:=λx hx=>by
    cases hk:aD s.set.name x with
    |false=>rfl
    |true=>exact absurd ⟨x,hx,hk⟩ hex
   rw[qG hno];have hcut:dJ z.apex z.sets s.set.name=false:=by
    cases hk:dJ z.apex z.sets s.set.name with
    |false=>rfl
    |true =>
     obtain⟨g,hg,hgu⟩:=hcov _ ((xq _ _ _).1 hk);rw[hno g hg]at hgu;cases hgu
   have hc' :(if (!(c==[])&& !(bq s.set.name c).1)=true then[]else c)=[]:=by
    rcases hcH with e|e
    . subst e;rfl
    . rw[hne c e,hu c e,hno c e];rfl
   unfold jJ;simp only[hc',hcut];rfl
theorem GI{z:aF}(ho:Ordered z):∀(l pre:List Signed) (c:Bs),pre++l=z.sets->((pre=[]/\c=[])\/ ∃p y,pre=p++[y]/\c=spec (bD z) y.set.name) ->
 bh (dJ z.apex z.sets) c l=l.map λs=>spec (bD z) s.set.name
 |[],_,_,_,_=>rfl
 |s::t,pre,c,hz,hc=>by
  rw[bh,MC ho hz hc,List.map_cons]
  congr 1
  exact GI ho t (pre++[s]) _ (by rw[<- hz];simp) (.inr ⟨pre,s,rfl,rfl⟩)
theorem tY{z:aF}(ho:Ordered z):ee z=cO z:=by
 rw[tX ho];exact(GI ho z.sets [] [] rfl (.inl ⟨rfl,rfl⟩)).symm
def jM(l:List Signed):Nat->Bs
 |0=>[]
 |i+1=>match l[i]? with|some s=>lO (jM l i) s|none=>jM l i
def AK(z:aF)(i:Nat):Bool:=match z.sets[i]? with|some s=> !vW (lO (jM z.sets i) s) (se i s ((z.sets[i-1]?).getD s)) s.set.type|none=>true
theorem EX(z:aF):∀(l:List Signed) (k:Nat),z.sets.drop k=l->yd z (jM z.sets k) k l=(List.range l.length).all λi=>AK z (k+i)
 |[],_,_=>rfl
 |s::t,k,h=>by
  have hs:z.sets[k]? =some s:=by
   have:=congrArg (λl=>l[0]?) h;simpa using this
  have ht:z.sets.drop (k+1)=t:=by
   have:=drop_cons hs;rw[h]at this;exact(List.cons.inj this).2.symm
  have e:jM z.sets (k+1)=lO (jM z.sets k) s:=by simp only[jM,hs]
  have ih:=EX z t (k+1) ht;rw[e]at ih;rw[yd,ih,List.length_cons,List.range_succ_eq_map,List.all_cons,List.all_map]
  congr 1
  . simp only[Nat.add_zero,AK,hs]
  . congr 1;funext i;simp only[Function.comp];congr 1;omega
theorem MI(z:aF):sf z=(List.range z.sets.length).all (AK z):=by
 have:=EX z z.sets 0 (by simp);rw[sf];simpa [jM] using this
theorem AR(l:List Signed):∀i,i<=l.length->(jM l i=[]/\ ∀j s,j<i->l[j]? =some s->s.set.type≠3)\/(∃j s,j<i/\l[j]? =some s/\s.set.type=3/\jM l i=s.set.name/\ ∀j' s',j<j' ->j' <i->l[j']? =some s' ->s'.set.type≠3)
 |0,_=> .inl ⟨rfl,λj s h=>by omega⟩
 |i+1,hi=>by
  obtain⟨s,hs⟩:∃s,l[i]? =some s:=⟨_,ah (by omega)⟩
  have e:jM l (i+1)=lO (jM l i) s:=by simp only[jM,hs]
  by_cases h3:s.set.type=3
  . right
    refine⟨i,s,by omega,hs,h3,by rw[e,lO,if_pos (by simpa using h3)],λj' s' h h' =>by omega⟩
  . have e' :jM l (i+1)=jM l i:=by rw[e,lO,if_neg (by simpa using h3)]
    rw[e'];rcases AR l i (by omega)with ⟨k1,k2⟩|⟨j,x,k1,k2,k3,k4,k5⟩
    . refine .inl ⟨k1,λj y hj hy=>?_⟩;by_cases ej:j=i
      . subst ej;rw[hs]at hy;cases hy;exact h3
      . exact k2 j y (by omega) hy
    . refine .inr ⟨j,x,by omega,k2,k3,k4,λj' y h h' hy=>?_⟩;by_cases ej:j' =i
      . subst ej;rw[hs]at hy;cases hy;exact h3
      . exact k5 j' y h (by omega) hy
theorem fQ:∀{l:List Signed},dX l-> ∀{i j:Nat} {a b:Signed},i<j->l[i]? =some a->l[j]? =some b->cpl a.place b.place<0
 |[],_,_,_,_,_,_,h,_=>by cases h
 |x::t,hr,i,j,a,b,hij,ha,hb=>by
  cases j with
  |zero=>omega
  |succ j =>
   cases i with
   |zero=>cases ha;exact lX hr b (ao hb)
   |succ i=>exact fQ hr.tail (by omega) ha hb
theorem jq{a b:Signed}(h:cpl a.place b.place<0):aI a.set.name b.set.name<=0/\(a.set.name=b.set.name->a.set.type<b.set.type):=by
 unfold cpl lex Signed.place at h;simp only at h;split at h
 . rename_i e;refine⟨by omega,λ_=>?_⟩;unfold cR at h;split at h
   . assumption
   . split at h <;> omega
 . rename_i e;exact⟨by omega,λk=>absurd ((bo.zero _ _).2 k) e⟩
theorem Ip{a b:Bs}(h:aI a b<=0)(k:aI b a<=0):a=b:=by
 have:=bo.anti a b;exact(bo.zero _ _).1 (by omega)
theorem AL{z:aF}{i:Nat}{s p:Signed}(hs:z.sets[i]? =some s)(hp:z.sets[i-1]? =some p)(hne:s.set.name≠[]) :
 AK z i=false ↔ 0<i/\p.set.name=s.set.name/\(s.set.type=3\/(s.set.name=lO (jM z.sets i) s/\s.set.type≠3/\s.set.type≠8)):=by
 simp only[AK,hs,hp,Option.getD_some,Bool.not_eq_false'];unfold vW se;by_cases h:0<i/\p.set.name=s.set.name
 . have hi:((decide ((i:Int)>0)&&(p.set.name==s.set.name))=true):=by simp[h.1,h.2]
   rw[if_pos hi];have:(s.set.name==[])=false:=by simpa using hne
   simp[this,h.1,h.2,and_assoc]
 . have hi:¬((decide ((i:Int)>0)&&(p.set.name==s.set.name))=true):=by
    intro k;simp at k;exact h ⟨k.1,k.2⟩
   rw[if_neg hi];simp;intro k1 k2;exact absurd ⟨k1,k2⟩ h
theorem mU{z:aF}{i:Nat}{s p:Signed}(hs:z.sets[i]? =some s)(hp:z.sets[i-1]? =some p) :
 mi z i=false ↔ s.set.type=3/\((0<i/\p.set.name=s.set.name)\/ ∃x,z.sets[i+1]? =some x/\x.set.name=s.set.name/\x.set.type≠8):=by
 simp only[mi,hs,hp,Option.getD_some,Bool.not_eq_false'];unfold tV;by_cases hlt:i+1<z.sets.length
 . obtain⟨x,hx⟩:∃x,z.sets[i+1]? =some x:=⟨_,ah hlt⟩
   have hd:decide (((i:Nat):Int)+1<(z.sets.length:Int))=true:=by simp;omega
   simp[hx,hd]
 . have hx:z.sets[i+1]? =none:=by simp;omega
   have hd:decide (((i:Nat):Int)+1<(z.sets.length:Int))=false:=by simp;omega
   simp[hx,hd]
theorem PE{z:aF}(ho:Ordered z):sf z=aliases z:=by
 rw[MI,aliases];have hne:∀s∈z.sets,s.set.name≠[]:=λs hs e=>by
  have:=ho.name s hs;rw[e]at this;exact absurd this (by decide)
 have h8:∀s∈z.sets,s.set.type<=8:=λs hs=>by
  have:=ho.set s hs;unfold dL at this;simp only[ay,Bool.not_eq_true',Bool.or_eq_false_iff,Bool.not_eq_false']at this;have:=this.1.1.1.1.2;unfold within at this;simp at this;omega
 rw[Bool.eq_iff_iff,av,av];constructor
 . intro h i hi;have hi:=List.mem_range.1 hi;obtain⟨s,hs⟩:∃s,z.sets[i]? =some s:=⟨_,ah hi⟩
   obtain⟨p,hp⟩:∃p,z.sets[i-1]? =some p:=⟨_,ah (by omega)⟩
   have hm:=ao hs;cases hb:mi z i with
   |true=>rfl
   |false =>
    obtain⟨t3,k⟩:=(mU hs hp).1 hb;rcases k with ⟨k1,k2⟩|⟨x,hx,k1,k2⟩
    . have:=h i (List.mem_range.2 hi);rw[(AL hs hp (hne s hm)).2 ⟨k1,k2,.inl t3⟩]at this;cases this
    . have hl:=(ar.1 hx).1;have hmx:=ao hx;have ht:=(jq (fQ ho.rising (Nat.lt_succ_self i) hs hx)).2 k1.symm;have ea:jM z.sets (i+1)=s.set.name:=by
       simp only[jM,hs];rw[lO,if_pos (by simpa using t3)]
      have:=h (i+1) (List.mem_range.2 hl);rw[(AL hx (by simpa using hs) (hne x hmx)).2 ⟨by omega,k1.symm,.inr ⟨by rw[lO,if_neg (by simp;omega),ea,k1],by omega,k2⟩⟩]at this;cases this
 . intro h i hi;have hi:=List.mem_range.1 hi;obtain⟨s,hs⟩:∃s,z.sets[i]? =some s:=⟨_,ah hi⟩
   obtain⟨p,hp⟩:∃p,z.sets[i-1]? =some p:=⟨_,ah (by omega)⟩
   have hm:=ao hs;cases hb:AK z i with
   |true=>rfl
   |false =>
    obtain⟨k0,kn,k⟩:=(AL hs hp (hne s hm)).1 hb;rcases k with t3|⟨e,t3,t8⟩
    . have:=h i (List.mem_range.2 hi);rw[(mU hs hp).2 ⟨t3,.inl ⟨k0,kn⟩⟩]at this;cases this
    . rw[lO,if_neg (by simpa using t3)]at e;rcases AR z.sets i (by omega)with ⟨q,_⟩|⟨j,y,q1,q2,q3,q4,_⟩
      . exact absurd (e.trans q) (hne s hm)
      . have hys:y.set.name=s.set.name:=by rw[e,q4]
        obtain⟨x,hx⟩:∃x,z.sets[j+1]? =some x:=⟨_,ah (by omega)⟩
        obtain⟨p',hp'⟩:∃p',z.sets[j-1]? =some p' :=⟨_,ah (by omega)⟩
        have hyx:=(jq (fQ ho.rising (Nat.lt_succ_self j) q2 hx)).1;have hno:=h j (List.mem_range.2 (by omega));by_cases ej:j+1=i
        . rw[ej,hs]at hx;cases hx;rw[(mU q2 hp').2 ⟨q3,.inr ⟨s,by rw[ej];exact hs,hys.symm,t8⟩⟩]at hno;cases hno
        . have hxs:=jq (fQ ho.rising (show j+1<i by omega) hx hs);have ex:x.set.name=s.set.name:=Ip hxs.1 (by rw[<- hys];exact hyx);have:=hxs.2 ex;have:=h8 s hm;rw[(mU q2 hp').2 ⟨q3,.inr ⟨x,hx,by rw[ex,hys],by omega⟩⟩]at hno;cases hno
theorem PI(z:aF):si z=aW z:=by
 unfold si aW;cases ho:ordered z with
 |false=>simp
 |true =>
  have o:=Ordered.of ho;rw[PE o,Oo (tY o),Oi (tY o)];simp only[du,Bool.and_assoc]
theorem xu{α:Type}{a b:List α}(hl:a.length=b.length)(h:∀i,i<a.length->a[i]? =b[i]?):a=b:=by
 apply List.ext_getElem?;intro i;by_cases hi:i<a.length
 . exact h i hi
 . rw[List.getElem?_eq_none (by omega),List.getElem?_eq_none (by omega)]
theorem zW{α:Type}{a b:List α}{k:Nat}(h:∀i,i<k->a[i]? =b[i]?)(hk:a[k]? =b[k]?):∀i,i<k+1->a[i]? =b[i]? :=λi hi=>by
 rcases Nat.lt_or_eq_of_le (Nat.le_of_lt_succ hi)with h1|rfl
 . exact h i h1
 . exact hk
theorem vO{α:Type}[DecidableEq α]{a b:α}(h:a≠b):AV.d (D.bool false)=AV.d (D.bool (decide (a=b))):=by rw[decide_eq_false h]
theorem Fl{α:Type}[DecidableEq α]{a b:α}(h:a=b):AV.d (D.bool true)=AV.d (D.bool (decide (a=b))):=by rw[decide_eq_true h]
theorem DX{α β:Type}{f:α->β}{a b:List α}(h:(((a.map f).length:Int) != ((b.map f).length:Int))=false):a.length=b.length:=by
 simp at h;omega
end NP
namespace Go.Proofs.YtmaepddmaghpjaaGreatDoor
open NQ Go NP Go.RowKit
end Go.Proofs.YtmaepddmaghpjaaGreatDoor
