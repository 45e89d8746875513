/-
  Merged texts.
-/
import Derived.Test.YtjapjahfllomkaaGreatDoorTyM
import Derived.Test.YtjapjahfllomkaaGreatDoorMZb
set_option linter.all false
namespace NP
open NQ Go
def bd(d:Datum):List D:=[.str d.text,.int .i64 d.n,.int .i64 d.m]
def mQ(g:Sig):List D:=[.str g.zone,.int .i64 g.key,.int .i64 g.alg,.int .i64 g.since,.int .i64 g.till,.int .u64 g.sum]
def mO(s:gG):List D:=[.str s.name,.int .i64 s.type,.int .i64 s.life,.slice 3 (s.data.map bd)]
def an(s:Signed):List D:=[.str s.set.name,.int .i64 s.set.type,.int .i64 s.set.life,.slice 3 (s.set.data.map bd),.slice 6 (s.sigs.map mQ)]
def aM(z:az):List D:=[.str z.apex,.slice 5 (z.sets.map an)]
def cL(q:aQ):List D:=[.str q.name,.int .i64 q.type]
def BU(r:wT):List D:=[.int .i64 r.text,.int .i64 r.leastN,.int .i64 r.mostN,.int .i64 r.leastM,.int .i64 r.mostM,.bool r.even,.bool r.single,.bool r.cO]
end NP
namespace Go.Proofs.YtjapjahfllomkaaGreatDoor
open NQ Go NP Go.RowKit
theorem Ad{w:World}{O L:Nat->Prop}{σ:Nat->Value}{a b:AV}{u v:Value}(h1:aw w O L σ a u)(h2:aw w O L σ b v):aw w O L σ (.tuple [a,b]) (.tuple #[u,v]):=by
 refine .tuple _ _ rfl λj c hj=>?_
 rcases j with _|_|j
 . cases hj;exact h1
 . cases hj;exact h2
 . simp at hj
theorem j9(s:Bs):NQ.Fn cx 61 [.str s] (.d (.bool (ao s))) []:=by
 refine cJ ⟨_,Tryz.func61,by kernel_rfl,by kernel_rfl⟩ rfl λw vs _ hsz hrep=>?_
 obtain⟨b,hb,rfl⟩:=di (hrep 0 _ rfl);rw[pt hsz,hb];exact(El b w).mono λe w' ⟨he,hbel⟩=>⟨_,he,hbel,.eE _⟩
theorem mg(s:Bs):NQ.Fn cx 62 [.str s] (.d (.bool (ao s))) []:=by
 refine cJ ⟨_,Tryz.func62,by kernel_rfl,by kernel_rfl⟩ rfl λw vs _ hsz hrep=>?_
 obtain⟨b,hb,rfl⟩:=di (hrep 0 _ rfl);rw[pt hsz,hb];exact(pF b w).mono λe w' ⟨he,hbel⟩=>⟨_,he,hbel,.eE _⟩
theorem B5(s:Bs)(hv:ao s=true):NQ.Fn cx 185 [.str s] (.d (.bool (fB s))) []:=by
 refine cJ ⟨_,Tryz.func185,by kernel_rfl,by kernel_rfl⟩ rfl λw vs _ hsz hrep=>?_
 obtain⟨b,hb,rfl⟩:=di (hrep 0 _ rfl);rw[pt hsz,hb];exact(Eh b hv w).mono λe w' ⟨he,hbel⟩=>⟨_,he,hbel,.eE _⟩
theorem tF(s:Bs):NQ.Fn cx 220 [.str s] (.d (.bool (fB s))) []:=by
 refine cJ ⟨_,Tryz.func220,by kernel_rfl,by kernel_rfl⟩ rfl λw vs _ hsz hrep=>?_
 obtain⟨b,hb,rfl⟩:=di (hrep 0 _ rfl);rw[pt hsz,hb];exact(xt b w).mono λe w' ⟨he,hbel⟩=>⟨_,he,hbel ▸ Below.refl _ _,.eE _⟩
theorem nZ(s:Bs):NQ.Fn cx 90 [.str s] (.tuple [.d (.str (dN s).1),.d (.int .i64 (dN s).2)]) []:=by
 refine cJ ⟨_,Tryz.func90,by kernel_rfl,by kernel_rfl⟩ rfl λw vs _ hsz hrep=>?_
 obtain⟨b,hb,rfl⟩:=di (hrep 0 _ rfl);rw[pt hsz,hb];exact(B4 b w).mono λe w' ⟨he,hbel⟩=>⟨_,he,hbel,Ad (.d _ _ (.str _ _ (S_mk _))) (.mkInt _ _)⟩
theorem si(s z:Bs):NQ.Fn cx 89 [.str s,.str z] (.tuple [.d (.bool (bG s z).1),.d (.int .i64 (bG s z).2)]) []:=by
 refine cJ ⟨_,Tryz.func89,by kernel_rfl,by kernel_rfl⟩ rfl λw vs _ hsz hrep=>?_
 obtain⟨b,hb,rfl⟩:=di (hrep 0 _ rfl);obtain⟨c,hc,rfl⟩:=di (hrep 1 _ rfl);rw[qQ hsz,hb,hc];exact(Ek b c w).mono λe w' ⟨he,hbel⟩=>⟨_,he,hbel,Ad (.eE _) (.mkInt _ _)⟩
theorem oV(s z:Bs):NQ.Fn cx 112 [.str s,.str z] (.tuple [.d (.int .i64 (cC s z).1),.d (.int .i64 (cC s z).2)]) []:=by
 refine cJ ⟨_,Tryz.func112,by kernel_rfl,by kernel_rfl⟩ rfl λw vs _ hsz hrep=>?_
 obtain⟨b,hb,rfl⟩:=di (hrep 0 _ rfl);obtain⟨c,hc,rfl⟩:=di (hrep 1 _ rfl);rw[qQ hsz,hb,hc];exact(Bw b c w).mono λe w' ⟨he,hbel⟩=>⟨_,he,hbel,Ad (.mkInt _ _) (.mkInt _ _)⟩
theorem lH(s z:Bs)(hs:s.length<=60)(hz:z.length<=60):NQ.Fn cx 142 [.str s,.str z] (.d (.bool (aF s z))) []:=by
 refine cJ ⟨_,Tryz.func142,by kernel_rfl,by kernel_rfl⟩ rfl λw vs _ hsz hrep=>?_
 obtain⟨b,hb,rfl⟩:=di (hrep 0 _ rfl);obtain⟨c,hc,rfl⟩:=di (hrep 1 _ rfl);rw[qQ hsz,hb,hc];exact(IH b c (by simpa using hs) (by simpa using hz) w).mono λe w' ⟨he,hbel⟩=>⟨_,he,hbel,.eE _⟩
theorem qn(s z:Bs)(hs:s.length<=60)(hz:z.length<=60):NQ.Fn cx 20 [.str s,.str z] (.d (.int .i64 (aH s z))) []:=by
 refine cJ ⟨_,Tryz.func20,by kernel_rfl,by kernel_rfl⟩ rfl λw vs _ hsz hrep=>?_
 obtain⟨b,hb,rfl⟩:=di (hrep 0 _ rfl);obtain⟨c,hc,rfl⟩:=di (hrep 1 _ rfl);rw[qQ hsz,hb,hc];exact(tO b c (by simpa using hs) (by simpa using hz) w).mono λe w' ⟨he,hbel⟩=>⟨_,he,hbel,.mkInt _ _⟩
theorem Eg(s z:Bs)(hs:ao s=true)(hz:ao z=true):NQ.Fn cx 294 [.str s,.str z] (.tuple [.d (.int .i64 (aH s z)),.d (.int .i64 0)]) []:=by
 refine cJ ⟨_,Tryz.func294,by kernel_rfl,by kernel_rfl⟩ rfl λw vs _ hsz hrep=>?_
 obtain⟨b,hb,rfl⟩:=di (hrep 0 _ rfl);obtain⟨c,hc,rfl⟩:=di (hrep 1 _ rfl);rw[qQ hsz,hb,hc];exact(zd b c hs hz w).mono λe w' ⟨he,hbel⟩=>⟨_,he,hbel,Ad (.mkInt _ _) (.mkInt _ _)⟩
theorem Bt(x lo hi:Int):NQ.Fn cx 219 [.int .i64 x,.int .i64 lo,.int .i64 hi] (.d (.bool (within x lo hi))) []:=by
 refine cJ ⟨_,Tryz.func219,by kernel_rfl,by kernel_rfl⟩ rfl λw vs _ hsz hrep=>?_
 rw[Qh hsz,vO (hrep 0 _ rfl),vO (hrep 1 _ rfl),vO (hrep 2 _ rfl)];exact(jO x lo hi w).mono λe w' ⟨he,hbel⟩=>⟨_,he,hbel ▸ Below.refl _ _,.eE _⟩
theorem LY(x:Int):NQ.Fn cx 179 [.int .i64 x] (.d (.bool false)) []:=by
 refine aB aP mixed Tryz.func179 (by kernel_rfl) rfl (ai rfl) ?_;conv=>whnf
 repeat' (first|(refine ae (λh=>?_) (λh=>?_) <;> (rw[h];conv=>whnf))|fail)
 all_goals (refine af rfl ?_;simp[D.cV])
theorem oe(x y:Int):NQ.Fn cx 104 [.int .i64 x,.int .i64 y] (.d (.int .i64 (db x y))) []:=by
 refine aB aP mixed Tryz.func104 (by kernel_rfl) rfl (ai rfl) ?_;conv=>whnf
 repeat' (first|(refine⟨_,_,LY _,?_⟩;conv=>whnf)|(refine ae (λh=>?_) (λh=>?_) <;> (rw[h];conv=>whnf))|fail)
 all_goals (refine af rfl ?_;simp_all [D.cV,db];try omega)
theorem Cp(x y:Bs):NQ.Fn cx 282 [.str x,.str y] (.d (.int .i64 (Go.Lib.compareBytes x y))) []:=by
 refine cJ ⟨_,Tryz.func282,by kernel_rfl,by kernel_rfl⟩ rfl λw vs _ hsz hrep=>?_
 obtain⟨b,hb,rfl⟩:=di (hrep 0 _ rfl);obtain⟨c,hc,rfl⟩:=di (hrep 1 _ rfl);rw[qQ hsz,hb,hc];exact(x9 b c w).mono λe w' ⟨he,hbel⟩=>⟨_,he,hbel ▸ Below.refl _ _,.mkInt _ _⟩
end Go.Proofs.YtjapjahfllomkaaGreatDoor
set_option maxRecDepth 100000
namespace NP
open NQ Go
def jK(l:List Int):Int:=(l.find? (· != 0)).getD 0
theorem EY{l:List Int}{k:Nat}(h:(List.range k).all (λi=>(l[i]?.getD 0)==0)=true)(hk:l.length<=k):jK l=0:=by
 have:l.find? (· != 0)=none:=by
  rw[List.find?_eq_none];intro x hx;obtain⟨j,hj,rfl⟩:=List.getElem_of_mem hx;have:=ax.1 h j (List.mem_range.2 (by omega));simpa [hj] using this
 rw[jK,this];rfl
theorem EZ{l:List Int}:∀{k:Nat} {x:Int},(List.range k).all (λi=>(l[i]?.getD 0)==0)=true->l[k]? =some x->x≠0->jK l=x:=by
 induction l with
 |nil=>intro k x _ h;simp at h
 |cons a t ih =>
  intro k x h hx h0;cases k with
  |zero=>simp at hx;subst hx;simp[jK,h0]
  |succ k =>
   have ha:a=0:=by have:=ax.1 h 0 (List.mem_range.2 (by omega));simpa using this
   have:=ih (k:=k) (x:=x) (ax.2 λi hi=>by
    have:=ax.1 h (i+1) (List.mem_range.2 (by have:=List.mem_range.1 hi;omega));simpa using this) (by simpa using hx) h0
   simpa [jK,ha] using this
theorem F1(x y z:Int):jK [x,y,z]=if x=0 then(if y=0 then z else y)else x:=by
 by_cases hx:x=0 <;> by_cases hy:y=0 <;> by_cases hz:z=0 <;> simp[jK,hx,hy,hz]
end NP
namespace Go.Proofs.YtjapjahfllomkaaGreatDoor
open NQ Go NP Go.RowKit
theorem JO(s:Bs):NQ.Fn cx 281 [.str s] (.d (.bool (cj s))) []:=by
 refine cJ ⟨_,Tryz.func281,by kernel_rfl,by kernel_rfl⟩ rfl λw vs _ hsz hrep=>?_
 obtain⟨b,hb,rfl⟩:=di (hrep 0 _ rfl);rw[pt hsz,hb];exact(CY b w).mono λe w' ⟨he,hbel⟩=>⟨_,he,hbel ▸ Below.refl _ _,.eE _⟩
theorem BK(r:wT)(d:Datum):NQ.Fn cx 221 [.agg (BU r),.agg (bd d)] (.d (.bool (dZ r d))) []:=by
 refine aB aP mixed Tryz.func221 (by kernel_rfl) rfl (ai rfl) ?_;conv=>whnf
 repeat' (first|(refine⟨_,_,Bt _ _ _,?_⟩;conv=>whnf)|(refine⟨_,_,tF _,?_⟩;conv=>whnf)|(refine⟨_,_,j9 _,?_⟩;conv=>whnf)|(refine⟨_,_,JO _,?_⟩;conv=>whnf)|(refine ae (λh=>?_) (λh=>?_) <;> (rw[h];conv=>whnf))|fail)
 all_goals
  refine af rfl ?_;simp only[D.cV,dZ,jh]
  simp_all
def bg(n:Int):List D:=[.int .i64 n]
theorem Hy(l:List Int)(hl:l.length<=1000):NQ.Fn cx 103 [.slice 1 (l.map bg)] (.d (.int .i64 (jK l))) []:=by
 refine aB aP mixed Tryz.func103 (by kernel_rfl) rfl (ai rfl) ?_;conv=>whnf
 refine⟨Nat,λk=>⟨[(0,.d (.slice 1 (l.map bg))),(3,.d (.int .i64 0)),(6,.d (.slice 1 (l.map bg))),(7,.d (.int .i64 ((l.map bg).length:Int))),(8,.d (.int .i64 k))],[]⟩,
  λk=>k<=l.length/\(List.range k).all (λi=>(l[i]?.getD 0)==0)=true,λk=>l.length-k,⟨0,⟨by omega,rfl⟩,ag.keep ⟨ab,ab,ab,ab,ab,trivial⟩ trivial⟩,λk ⟨hk,hall⟩=>?_⟩
 conv=>whnf
 refine ae (λh1=>?_) (λh1=>?_) <;> (rw[h1];conv=>whnf)
 . have hlt:k<l.length:=by simp at h1;omega
   obtain⟨g,hg⟩:∃g,l[k]? =some g:=⟨_,ah hlt⟩
   refine⟨au k,bg g,aA hg,?_⟩
   conv=>whnf
   refine ae (λh=>?_) (λh=>?_) <;> (rw[h];conv=>whnf)
   . refine af rfl ?_;rw[EZ hall hg (by simpa using h)];rfl
   . refine⟨k+1,⟨by omega,?_⟩,by(show l.length-(k+1)<l.length-k;omega),ag.keep ⟨ab,ab,ab,ab,⟨ak (by omega),rfl⟩,trivial⟩ trivial⟩;rw[bX,hall,hg];simpa using h
 . refine af rfl ?_;rw[EY hall (by simp at h1;omega)];rfl
theorem zr(a b:Datum):NQ.Fn cx 222 [.agg (bd a),.agg (bd b)] (.d (.int .i64 (px a b))) []:=by
 refine aB aP mixed Tryz.func222 (by kernel_rfl) rfl (ai rfl) ?_;conv=>whnf
 repeat' (first|(refine⟨(by kernel_rfl:bc _ _=true),?_⟩;conv=>whnf)|(refine⟨_,_,Cp _ _,?_⟩;conv=>whnf)|(refine⟨_,_,oe _ _,?_⟩;conv=>whnf)|fail)
 refine⟨_,Hy [_,_,_] (by simp),rfl,?_⟩
 conv=>whnf
 refine af rfl ?_;rw[F1];rfl
end Go.Proofs.YtjapjahfllomkaaGreatDoor
namespace NP
open NQ Go
def mD(r:wT)(i:Nat)(d p:Datum):Bool:= !dZ r d||(decide ((i:Int)>0)&&decide (px p d>=0))
def nM(r:wT)(l:List Datum)(i:Nat):Bool:=match l[i]?, l[i-1]? with|some d,some p=> !mD r i d p|_,_=>false
theorem sC{r:wT}{l:List Datum}{i:Nat}{d p:Datum}(h1:l[i]? =some d)(h2:l[i-1]? =some p):nM r l i= !mD r i d p:=by simp only[nM,h1,h2]
def dL(s:gG):Bool :=
 !((!ao s.name|| !within s.type 1 8|| !within s.life 0 100000)|| !within s.data.length 1 8 ||
  (((eH s.type).single&&((s.data.length:Int) != 1))||(fB s.name&& !(eH s.type).cO)))&&(List.range s.data.length).all (nM (eH s.type) s.data)
end NP
namespace Go.Proofs.YtjapjahfllomkaaGreatDoor
open NQ Go NP Go.RowKit
theorem H8{t:Int}(h:within t 1 8=true):0<=t/\t<9/\ ∃rest,u7.drop (t.toNat*8)=BU (eH t)++rest:=by
 simp[within]at h;refine⟨by omega,by omega,?_⟩;have:t=1\/t=2\/t=3\/t=4\/t=5\/t=6\/t=7\/t=8:=by omega
 rcases this with rfl|rfl|rfl|rfl|rfl|rfl|rfl|rfl <;> exact⟨_,rfl⟩
theorem wB(s:gG):NQ.Fn cx 175 [.agg (mO s)] (.d (.bool (dL s))) []:=by
 refine aB aP mixed Tryz.func175 (by kernel_rfl) rfl (ai rfl) ?_;conv=>whnf
 repeat' (first|(refine⟨_,_,Bt _ _ _,?_⟩;conv=>whnf)|(refine⟨_,_,j9 _,?_⟩;conv=>whnf)|(refine ae (λh=>?_) (λh=>?_) <;> (rw[h];conv=>whnf))|(refine af rfl ?_;show AV.d (D.bool false)=_;(try simp only[aj]at *);simp only[dL, *, if_true,if_false,aD];done)|fail)
 have ht:within s.type 1 8=true:=by simp_all
 obtain⟨t1,t2,rest,hrest⟩:=H8 ht;refine⟨t1,t2,?_⟩;show iq (some (AV.d (.ptr (u7.drop (s.type.toNat*8))))) _
 rw[hrest];generalize hr:eH s.type=r
 conv=>whnf
 repeat' (first|(refine⟨_,_,tF _,?_⟩;conv=>whnf)|(refine ae (λh=>?_) (λh=>?_) <;> (rw[h];conv=>whnf))|(refine af rfl ?_;show AV.d (D.bool false)=_;(try simp only[aj]at *);simp only[dL, *, if_true,if_false,aD];done)|fail)
 all_goals
  have hn:s.data.length<=8:=by simp[within]at *; omega
  have hyes:dL s=(List.range s.data.length).all (nM r s.data):=by
   simp only[aj]at *;simp only[dL, *, if_true,if_false,aD]
  refine⟨Nat,λk=>⟨[(1,.ptr 1 0),(3,.ptr 3 0),(50,.d (.slice 3 (s.data.map bd))),(51,.d (.int .i64 ((s.data.map bd).length:Int))),(52,.d (.int .i64 k))],[(1,.box ((mO s).map .d)),(3,.box ((BU r).map .d))]⟩,
   λk=>k<=s.data.length/\(List.range k).all (nM r s.data)=true,λk=>s.data.length-k,⟨0,⟨by omega,rfl⟩,ag.keep ⟨ab,ab,ab,ab,ab,trivial⟩ ⟨ab,⟨(by first|rfl|(show some (Blk.box [_,_,_,_,_,_,_,_])=_;simp only[BU,List.map_cons,List.map_nil, *])),rfl⟩,trivial⟩⟩,λk ⟨hk,hall⟩=>?_⟩
  conv=>whnf
  refine ae (λh1=>?_) (λh1=>?_) <;> (rw[h1];conv=>whnf)
  . have hlt:k<s.data.length:=by simp at h1;omega
    obtain⟨g,hg⟩:∃g,s.data[k]? =some g:=⟨_,ah hlt⟩
    obtain⟨p,hp⟩:∃p,s.data[k-1]? =some p:=⟨_,ah (by omega)⟩
    have hat:=sC (r:=r) hg hp;have hno:nM r s.data k=false->dL s=false:=λhh=>by rw[hyes,bN hlt hh]
    refine⟨au k,bd g,aA hg,?_⟩
    conv=>whnf
    repeat' (first
     |(refine⟨(by kernel_rfl:bc _ _=true),?_⟩;conv=>whnf)
     |(refine⟨_,_,BK r g,?_⟩;conv=>whnf)
     |(refine⟨_,_,zr p g,?_⟩;conv=>whnf)
     |(refine ae (λh=>?_) (λh=>?_) <;> (rw[h];conv=>whnf))
     |(refine⟨(ia (by assumption) (by omega)).1,bd p,eC (by assumption) (by omega) hp,?_⟩;conv=>whnf)
     |fail)
    all_goals first
     |(refine af rfl ?_;show AV.d (D.bool false)=_;rw[hno (by rw[hat];simp only[mD, *, if_true,if_false,aD])])
     |(refine⟨k+1,⟨by omega,?_⟩,by(show s.data.length-(k+1)<s.data.length-k;omega),ag.keep ⟨ab,ab,ab,ab,⟨ak (by omega),rfl⟩,trivial⟩ ⟨ab,ab,trivial⟩⟩;rw[bX,hall,hat];simp only[mD, *, if_true,if_false,aD])
     |fail
  . refine af rfl ?_;obtain rfl:k=s.data.length:=by simp at h1;omega
    show AV.d (D.bool true)=_
    rw[hyes,hall]
end Go.Proofs.YtjapjahfllomkaaGreatDoor
namespace NP
open NQ Go
def qt(a:Bs)(s:Int)(b:Bs)(t:Int):Int:=if a=b then db s t else(cC a b).1
def fits(t:Int)(ap:Bool):Bool:=if t=3\/t=6 then !ap else if t=4\/t=7 then ap else true
def oF(i:Nat)(apex:Bs)(g f p:Sig):Bool :=
 !(g.zone==apex)||decide (g.key<1)||decide (g.key>1000000)||decide (g.alg<1)||decide (g.alg>3)||(decide (g.since<0)||decide (g.since>g.till)||decide (g.till>20000000)) ||
  (decide ((i:Int)>0)&&(g.since != f.since||g.till != f.till||decide (g.key<=p.key)))
def nT(l:List Sig)(apex:Bs)(i:Nat):Bool :=
 match l[i]?, l[0]?, l[i-1]? with
 |some g,some f,some p=> !oF i apex g f p
 |_,_,_=>false
theorem MK{l:List Sig}{apex:Bs}{k:Nat}{g f p:Sig}(hg:l[k]? =some g)(hf:l[0]? =some f)(hp:l[k-1]? =some p):nT l apex k= !oF k apex g f p:=by
 simp only[nT,hg,hf,hp]
def gk(l:List Sig)(apex:Bs):Bool:= !decide ((l.length:Int)>6)&&(List.range l.length).all (nT l apex)
end NP
namespace Go.Proofs.YtjapjahfllomkaaGreatDoor
open NQ Go NP Go.RowKit
theorem pH(a:Bs)(s:Int)(b:Bs)(t:Int):NQ.Fn cx 164 [.str a,.int .i64 s,.str b,.int .i64 t] (.d (.int .i64 (qt a s b t))) []:=by
 refine aB aP mixed Tryz.func164 (by kernel_rfl) rfl (ai rfl) ?_;conv=>whnf
 repeat' (first|(refine ae (λh=>?_) (λh=>?_) <;> (rw[h];conv=>whnf))|(refine⟨_,_,oV _ _,?_⟩;conv=>whnf)|(refine⟨_,_,oe _ _,?_⟩;conv=>whnf)|fail)
 all_goals (refine af rfl ?_;simp_all [D.cV,qt])
theorem EB(t:Int)(ap:Bool):NQ.Fn cx 214 [.int .i64 t,.bool ap] (.d (.bool (fits t ap))) []:=by
 refine aB aP mixed Tryz.func214 (by kernel_rfl) rfl (ai rfl) ?_;conv=>whnf
 repeat' (first|(refine ae (λh=>?_) (λh=>?_) <;> (rw[h];conv=>whnf))|fail)
 all_goals (refine af rfl ?_;simp_all [D.cV,fits])
theorem JL(l:List Sig)(apex:Bs):NQ.Fn cx 215 [.slice 6 (l.map mQ),.str apex] (.d (.bool (gk l apex))) []:=by
 refine aB aP mixed Tryz.func215 (by kernel_rfl) rfl (ai rfl) ?_;conv=>whnf
 refine ae (λh=>?_) (λh=>?_) <;> (rw[h];conv=>whnf)
 . (refine af rfl ?_;show AV.d (D.bool false)=_;(try simp only[aj]at *);simp only[gk, *, if_true,if_false,aD];done)
 . have hl:l.length<=6:=by simp at h;omega
   have hyes:gk l apex=(List.range l.length).all (nT l apex):=by
    simp only[aj]at h;simp only[gk,h,if_true,if_false,aD]
   refine⟨Nat,λk=>⟨[(0,.d (.slice 6 (l.map mQ))),(1,.d (.str apex)),(10,.d (.slice 6 (l.map mQ))),(11,.d (.int .i64 ((l.map mQ).length:Int))),(12,.d (.int .i64 k))],[]⟩,λk=>k<=l.length/\(List.range k).all (nT l apex)=true,λk=>l.length-k,⟨0,⟨by omega,rfl⟩,ag.keep ⟨ab,ab,ab,ab,ab,trivial⟩ trivial⟩,λk ⟨hk,hall⟩=>?_⟩
   conv=>whnf
   refine ae (λh1=>?_) (λh1=>?_) <;> (rw[h1];conv=>whnf)
   . have hlt:k<l.length:=by simp at h1;omega
     obtain⟨g,hg⟩:∃g,l[k]? =some g:=⟨_,ah hlt⟩
     obtain⟨f,hf⟩:∃f,l[0]? =some f:=⟨_,ah (by omega)⟩
     obtain⟨p,hp⟩:∃p,l[k-1]? =some p:=⟨_,ah (by omega)⟩
     have hat:=MK (apex:=apex) hg hf hp;have hno:nT l apex k=false->gk l apex=false:=λhh=>by rw[hyes,bN hlt hh]
     refine⟨au k,mQ g,aA hg,?_⟩
     conv=>whnf
     repeat' (first
      |(refine ae (λh=>?_) (λh=>?_) <;> (rw[h];conv=>whnf))
      |(refine⟨(by kernel_rfl:bc _ _=true),?_⟩;conv=>whnf)
      |(refine⟨(by decide:(0:Int)<=0),mQ f,aA hf,?_⟩;conv=>whnf)
      |(refine⟨(ia (by assumption) (by omega)).1,mQ p,eC (by assumption) (by omega) hp,?_⟩;conv=>whnf)
      |fail)
     all_goals first
      |(refine af rfl ?_;show AV.d (D.bool false)=_;rw[hno (by rw[hat];simp only[oF, *, if_true,if_false,aD])])
      |(refine⟨k+1,⟨by omega,?_⟩,by(show l.length-(k+1)<l.length-k;omega),ag.keep ⟨ab,ab,ab,ab,⟨ak (by omega),rfl⟩,trivial⟩ trivial⟩;rw[bX,hall,hat];simp only[oF, *, if_true,if_false,aD])
      |fail
   . refine af rfl ?_;obtain rfl:k=l.length:=by simp at h1;omega
     show AV.d (D.bool true)=_
     rw[hyes,hall]
theorem CI(s:Signed)(q:aQ):NQ.Fn cx 163 [.agg (an s),.agg (cL q)] (.d (.int .i64 (qt s.set.name s.set.type q.name q.type))) []:=by
 refine aB aP mixed Tryz.func163 (by kernel_rfl) rfl (ai rfl) ?_;conv=>whnf
 (refine⟨_,_,pH _ _ _ _,?_⟩;conv=>whnf)
 exact af rfl rfl
end Go.Proofs.YtjapjahfllomkaaGreatDoor
namespace NP
open NQ Go
def plc(s:Signed)(q:aQ):Int:=qt s.set.name s.set.type q.name q.type
def Split(l:List Signed)(q:aQ)(c:Nat):Prop:=c<=l.length/\(∀i s,l[i]? =some s->i<c->plc s q<0)/\(∀i s,l[i]? =some s->c<=i->0<=plc s q)
def foundAt(l:List Signed)(q:aQ)(c:Nat):Bool:=match l[c]? with|some s=>plc s q==0|none=>false
theorem Di{i j:Nat}(h:i+j<=1000000000):IntKind.i64.wrap ((IntKind.u64.wrap (IntKind.i64.wrap ((i:Int)+(j:Int)))).fdiv (2 ^ min (Int.toNat 1) IntKind.u64.bits))=(((i+j) / 2:Nat):Int):=by
 rw[show((2:Int) ^ min (Int.toNat 1) IntKind.u64.bits)=2 from rfl];have h1:IntKind.i64.wrap ((i:Int)+(j:Int))=((i+j:Nat):Int):=by rw[wrap_i64 (by omega) (by omega)];omega
 have h2:IntKind.u64.wrap ((i+j:Nat):Int)=((i+j:Nat):Int):=by simp[IntKind.wrap,IntKind.signed,IntKind.bits];omega
 rw[h1,h2,Int.fdiv_eq_ediv_of_nonneg _ (by decide),wrap_i64 (by omega) (by omega)];omega
end NP
namespace Go.Proofs.YtjapjahfllomkaaGreatDoor
open NQ Go NP Go.RowKit
theorem Kl(l:List Signed)(q:aQ)(c:Nat)(hl:l.length<=100000)(hc:Split l q c) :
 NQ.Fn cx 162 [.slice 5 (l.map an),.agg (cL q),.fn 163 [] []] (.tuple [.d (.int .i64 c),.d (.bool (foundAt l q c))]) []:=by
 refine aB aP mixed Tryz.func162 (by kernel_rfl) rfl (ai rfl) ?_;conv=>whnf
 refine⟨Nat×Nat,λx=>⟨[(0,.d (.slice 5 (l.map an))),(2,.d (.fn 163 [] [])),(4,.ptr 4 0),(8,.d (.int .i64 ((l.map an).length:Int))),(9,.d (.int .i64 x.1)),(10,.d (.int .i64 x.2))],[(4,.box ((cL q).map .d))]⟩,
  λx=>x.1<=c/\c<=x.2/\x.2<=l.length,λx=>x.2-x.1,⟨(0,l.length),⟨by omega,hc.1,by omega⟩,ag.keep ⟨ab,ab,ab,ab,ab,⟨(by show AV.d (D.int _ _)=_;simp),rfl⟩,trivial⟩ ⟨ab,trivial⟩⟩,λ⟨i,j⟩ ⟨h1,h2,h3⟩=>?_⟩
 dsimp only at h1 h2 h3 ⊢
 conv=>whnf
 refine ae (λh=>?_) (λh=>?_) <;> (rw[h];conv=>whnf)
 . have hij:i<j:=by simp at h;omega
   (refine⟨(by kernel_rfl:bc _ _=true),?_⟩;conv=>whnf)
   rw[Di (by omega)];obtain⟨s,hs⟩:∃s,l[(i+j) / 2]? =some s:=⟨_,ah (by omega)⟩
   refine⟨au _,an s,aA hs,?_⟩
   conv=>whnf
   (refine⟨_,_,CI s q,?_⟩;conv=>whnf)
   refine ae (λh=>?_) (λh=>?_) <;> (rw[h];conv=>whnf)
   . have hlt:(i+j) / 2<c:=by
      rcases Nat.lt_or_ge ((i+j) / 2) c with hh|hh
      . exact hh
      . have:=hc.2.2 _ s hs hh;simp[plc]at h this;omega
     exact⟨((i+j) / 2+1,j),⟨by dsimp only;omega,h2,h3⟩,by dsimp only;omega,ag.keep ⟨ab,ab,ab,ab,⟨ak (by omega),rfl⟩,ab,trivial⟩ ⟨ab,trivial⟩⟩
   . have hge:c<=(i+j) / 2:=by
      rcases Nat.lt_or_ge ((i+j) / 2) c with hh|hh
      . have:=hc.2.1 _ s hs hh;simp[plc]at h this;omega
      . exact hh
     exact⟨(i,(i+j) / 2),⟨h1,hge,by dsimp only;omega⟩,by dsimp only;omega,ag.keep ⟨ab,ab,ab,ab,ab,ab,trivial⟩ ⟨ab,trivial⟩⟩
 . obtain rfl:i=c:=by simp at h;omega
   clear h
   (refine⟨(by kernel_rfl:bc _ _=true),?_⟩;conv=>whnf)
   refine ae (λh=>?_) (λh=>?_) <;> (rw[h];conv=>whnf)
   . have hlt:i<l.length:=by simp at h;omega
     obtain⟨s,hs⟩:∃s,l[i]? =some s:=⟨_,ah hlt⟩
     refine⟨au _,an s,aA hs,?_⟩
     conv=>whnf
     (refine⟨_,_,CI s q,?_⟩;conv=>whnf)
     refine af rfl ?_;show AV.tuple [AV.d (.int .i64 i),AV.d (.bool _)]=_
     simp[foundAt,plc,hs]
   . refine af rfl ?_;show AV.tuple [AV.d (.int .i64 i),AV.d (.bool _)]=_
     have:l[i]? =none:=by simp at h;simp;omega
     simp[foundAt,this]
theorem N1(z:az)(q:aQ)(c:Nat)(hl:z.sets.length<=100000)(hc:Split z.sets q c) :
 NQ.Fn cx 87 [.agg (aM z),.agg (cL q)] (.tuple [.d (.int .i64 c),.d (.bool (foundAt z.sets q c))]) []:=by
 refine aB aP mixed Tryz.func87 (by kernel_rfl) rfl (ai rfl) ?_;conv=>whnf
 (refine⟨_,_,Kl z.sets q c hl hc,?_⟩;conv=>whnf)
 exact af rfl rfl
end Go.Proofs.YtjapjahfllomkaaGreatDoor
namespace NP
open NQ Go
def lN(apex:Bs)(i:Nat)(s p:Signed):Bool:= !dL s.set|| !(bG s.set.name apex).1||(!((i:Int)==0)&&decide (qt p.set.name p.set.type s.set.name s.set.type>=0))
def qF(z:az)(i:Nat):Bool:=match z.sets[i]?, z.sets[i-1]? with|some s,some p=> !lN z.apex i s p|_,_=>false
theorem qc{z:az}{i:Nat}{s p:Signed}(h1:z.sets[i]? =some s)(h2:z.sets[i-1]? =some p):qF z i= !lN z.apex i s p:=by simp only[qF,h1,h2]
def ordered(z:az):Bool:= !((!ao z.apex||fB z.apex)||decide ((z.sets.length:Int)>20000))&&(List.range z.sets.length).all (qF z)
theorem FM{k:Nat}(h:((k:Int)==0)=false):decide ((k:Int)>0)=true:=by simp at h ⊢;omega
end NP
namespace Go.Proofs.YtjapjahfllomkaaGreatDoor
open NQ Go NP Go.RowKit
theorem Fe(s:Bs):Go.Lib.hasPrefix s [42]=fB s:=by
 unfold Go.Lib.hasPrefix fB;cases s with
 |nil=>rfl
 |cons c t=>simp only[List.isPrefixOf,List.head?_cons];rw[Bool.eq_iff_iff];simp;exact eq_comm
theorem OT(s:Bs):NQ.Fn cx 213 [.str s,.str [42]] (.d (.bool (fB s))) []:=by
 refine cJ ⟨_,Tryz.func213,by kernel_rfl,by kernel_rfl⟩ rfl λw vs _ hsz hrep=>?_
 obtain⟨b,hb,rfl⟩:=di (hrep 0 _ rfl);obtain⟨c,hc,hc'⟩:=di (hrep 1 _ rfl);rw[qQ hsz,hb,hc];refine(Tryz.strings_HasPrefix _ _ _).mono ?_;rintro e w' ⟨rfl,rfl⟩;rw[hc',Fe];exact⟨_,rfl,Below.refl _ _,.eE _⟩
theorem HH(z:az):NQ.Fn cx 155 [.agg (aM z)] (.d (.bool (ordered z))) []:=by
 refine aB aP mixed Tryz.func155 (by kernel_rfl) rfl (ai rfl) ?_;conv=>whnf
 repeat' (first|(refine⟨_,_,j9 _,?_⟩;conv=>whnf)|(refine⟨_,_,OT _,?_⟩;conv=>whnf)|(refine ae (λh=>?_) (λh=>?_) <;> (rw[h];conv=>whnf))|(refine af rfl ?_;show AV.d (D.bool false)=_;(try simp only[aj]at *);simp only[ordered, *, if_true,if_false,aD];done)|fail)
 have hn:z.sets.length<=20000:=by simp at *; omega
 have hyes:ordered z=(List.range z.sets.length).all (qF z):=by
  simp only[aj]at *;simp only[ordered, *, if_true,if_false,aD]
 refine⟨Nat,λk=>⟨[(1,.ptr 1 0),(28,.d (.slice 5 (z.sets.map an))),(29,.d (.int .i64 ((z.sets.map an).length:Int))),(30,.d (.int .i64 k))],[(1,.box ((aM z).map .d))]⟩,
  λk=>k<=z.sets.length/\(List.range k).all (qF z)=true,λk=>z.sets.length-k,⟨0,⟨by omega,rfl⟩,ag.keep ⟨ab,ab,ab,ab,trivial⟩ ⟨ab,trivial⟩⟩,λk ⟨hk,hall⟩=>?_⟩
 conv=>whnf
 refine ae (λh1=>?_) (λh1=>?_) <;> (rw[h1];conv=>whnf)
 . have hlt:k<z.sets.length:=by simp at h1;omega
   obtain⟨s,hs⟩:∃s,z.sets[k]? =some s:=⟨_,ah hlt⟩
   obtain⟨p,hp⟩:∃p,z.sets[k-1]? =some p:=⟨_,ah (by omega)⟩
   have hat:=qc hs hp;have hno:qF z k=false->ordered z=false:=λhh=>by rw[hyes,bN hlt hh]
   refine⟨au k,an s,aA hs,?_⟩
   conv=>whnf
   repeat' (first
    |(refine⟨_,_,wB s.set,?_⟩;conv=>whnf)
    |(refine⟨_,_,si _ _,?_⟩;conv=>whnf)
    |(refine⟨_,_,pH _ _ _ _,?_⟩;conv=>whnf)
    |(refine ae (λh=>?_) (λh=>?_) <;> (rw[h];conv=>whnf))
    |(refine⟨(by kernel_rfl:bc _ _=true),?_⟩;conv=>whnf)
    |(refine⟨(ia (FM (by assumption)) (by omega)).1,an p,eC (FM (by assumption)) (by omega) hp,?_⟩;conv=>whnf)
    |fail)
   all_goals first
    |(refine af rfl ?_;show AV.d (D.bool false)=_;rw[hno (by rw[hat];simp only[lN, *, if_true,if_false,aD])])
    |(refine⟨k+1,⟨by omega,?_⟩,by(show z.sets.length-(k+1)<z.sets.length-k;omega),ag.keep ⟨ab,ab,ab,⟨ak (by omega),rfl⟩,trivial⟩ ⟨ab,trivial⟩⟩;rw[bX,hall,hat];simp only[lN, *, if_true,if_false,aD])
    |fail
 . refine af rfl ?_;obtain rfl:k=z.sets.length:=by simp at h1;omega
   show AV.d (D.bool true)=_
   rw[hyes,hall]
end Go.Proofs.YtjapjahfllomkaaGreatDoor
namespace NP
open NQ Go
def jr(z:az)(i:Nat):Bool:=match z.sets[i]? with|some s=>fits s.set.type (s.set.name==z.apex)|none=>false
def iA(has:Int->Bool)(z:az):Bool:=has 4&&has 2&&(List.range z.sets.length).all (jr z)
end NP
namespace Go.Proofs.YtjapjahfllomkaaGreatDoor
open NQ Go NP Go.RowKit
theorem Cb(z:az)(hn:z.sets.length<=100000)(pos:Int->Nat)(has:Int->Bool)(hf:∀t,NQ.Fn cx 87 [.agg (aM z),.agg (cL ⟨z.apex,t⟩)] (.tuple [.d (.int .i64 (pos t)),.d (.bool (has t))]) []) :
 NQ.Fn cx 156 [.agg (aM z)] (.d (.bool (iA has z))) []:=by
 refine aB aP mixed Tryz.func156 (by kernel_rfl) rfl (ai rfl) ?_;conv=>whnf
 refine⟨Nat,λk=>⟨[(1,.ptr 1 0),(9,.own 9),(10,.d (.int .i64 2)),(11,.d (.int .i64 k))],[(1,.box ((aM z).map .d)),(9,.row 3 1 [[.int .i64 4],[.int .i64 2]])]⟩,
  λk=>k<=2/\(0<k->has 4=true)/\(1<k->has 2=true),λk=>2-k,⟨0,⟨by omega,by omega,by omega⟩,ag.keep ⟨ab,ab,ab,ab,trivial⟩ ⟨ab,ab,trivial⟩⟩,λk ⟨hk,ha,hb⟩=>?_⟩
 conv=>whnf
 refine ae (λh1=>?_) (λh1=>?_) <;> (rw[h1];conv=>whnf)
 . have hlt:k<2:=by simp at h1;omega
   have hk2:k=0\/k=1:=by omega
   rcases hk2 with rfl|rfl
   . refine⟨by decide,by decide,?_⟩
     conv=>whnf
     refine⟨[.int .i64 4],rfl,?_⟩
     conv=>whnf
     (refine⟨_,_,hf 4,?_⟩;conv=>whnf)
     refine ae (λh=>?_) (λh=>?_) <;> (rw[h];conv=>whnf)
     . refine af rfl ?_;have h4:has 4=false:=by simpa using h
       simp[D.cV,iA,h4]
     . exact⟨1,⟨by omega,λ_=>by simpa using h,by omega⟩,by decide,ag.keep ⟨ab,ab,ab,⟨ak (by omega),rfl⟩,trivial⟩ ⟨ab,ab,trivial⟩⟩
   . refine⟨by decide,by decide,?_⟩
     conv=>whnf
     refine⟨[.int .i64 2],rfl,?_⟩
     conv=>whnf
     (refine⟨_,_,hf 2,?_⟩;conv=>whnf)
     refine ae (λh=>?_) (λh=>?_) <;> (rw[h];conv=>whnf)
     . refine af rfl ?_;have h4:has 2=false:=by simpa using h
       simp[D.cV,iA,h4]
     . exact⟨2,⟨by omega,λ_=>ha (by omega),λ_=>by simpa using h⟩,by decide,ag.keep ⟨ab,ab,ab,⟨ak (by omega),rfl⟩,trivial⟩ ⟨ab,ab,trivial⟩⟩
 . have h2:k=2:=by simp at h1;omega
   have h4:=ha (by omega);have h5:=hb (by omega);have hyes:iA has z=(List.range z.sets.length).all (jr z):=by simp only[iA,h4,h5,if_true,if_false,aD]
   clear h1 ha hb;refine⟨Nat,λk=>⟨[(1,.ptr 1 0),(30,.d (.slice 5 (z.sets.map an))),(31,.d (.int .i64 ((z.sets.map an).length:Int))),(32,.d (.int .i64 k))],[(1,.box ((aM z).map .d))]⟩,
    λk=>k<=z.sets.length/\(List.range k).all (jr z)=true,λk=>z.sets.length-k,⟨0,⟨by omega,rfl⟩,ag.keep ⟨ab,ab,ab,ab,trivial⟩ ⟨ab,trivial⟩⟩,λk ⟨hk,hall⟩=>?_⟩
   conv=>whnf
   refine ae (λh1=>?_) (λh1=>?_) <;> (rw[h1];conv=>whnf)
   . have hlt:k<z.sets.length:=by simp at h1;omega
     obtain⟨s,hs⟩:∃s,z.sets[k]? =some s:=⟨_,ah hlt⟩
     have hat:jr z k=fits s.set.type (s.set.name==z.apex):=by simp only[jr,hs]
     have hno:jr z k=false->iA has z=false:=λhh=>by rw[hyes,bN hlt hh]
     refine⟨au k,an s,aA hs,?_⟩
     conv=>whnf
     repeat' (first|(refine⟨_,_,EB _ _,?_⟩;conv=>whnf)|(refine ae (λh=>?_) (λh=>?_) <;> (rw[h];conv=>whnf))|(refine⟨(by kernel_rfl:bc _ _=true),?_⟩;conv=>whnf)|fail)
     all_goals first
      |(refine af rfl ?_;show AV.d (D.bool false)=_;rw[hno (by rw[hat];simp_all)])
      |(refine⟨k+1,⟨by omega,?_⟩,by(show z.sets.length-(k+1)<z.sets.length-k;omega),ag.keep ⟨ab,ab,ab,⟨ak (by omega),rfl⟩,trivial⟩ ⟨ab,trivial⟩⟩;rw[bX,hall,hat];simp_all)
      |fail
   . refine af rfl ?_;obtain rfl:k=z.sets.length:=by simp at h1;omega
     show AV.d (D.bool true)=_
     rw[hyes,hall]
end Go.Proofs.YtjapjahfllomkaaGreatDoor
namespace NP
open NQ Go
def aJ(s:Bs):List D:=[.str s]
def sP(z:az)(b:List Bs):List D:=[.str z.apex,.slice 5 (z.sets.map an),.slice 1 (b.map aJ)]
def tS(n i:Nat)(s p x:Signed):Bool :=
 !(s.set.type != 3)&&((decide ((i:Int)>0)&&(p.set.name==s.set.name))||(decide (((i:Nat):Int)+1<(n:Int))&&(x.set.name==s.set.name)&&(x.set.type != 8)))
def mz(z:az)(i:Nat):Bool :=
 match z.sets[i]? with
 |some s=> !tS z.sets.length i s ((z.sets[i-1]?).getD s) ((z.sets[i+1]?).getD s)
 |none=>false
def aliases(z:az):Bool:=(List.range z.sets.length).all (mz z)
def kg(s:Signed)(b:Bs):Bool :=
 if (b==[])=true then s.set.type==6
 else if (b==s.set.name)=true then(s.set.type != 2)&&(s.set.type != 6)&&(s.set.type != 8)&&(s.set.type != 1)
 else s.set.type != 1
def cutAt(z:az)(b:List Bs)(i:Nat):Bool:=match z.sets[i]?, b[i]? with|some s,some x=> !kg s x|_,_=>false
def nL(z:az)(b:List Bs):Bool:=(List.range z.sets.length).all (cutAt z b)
def mP(s:Signed)(b:Bs):Bool:=(!(b==[])&&((s.set.type==2)||(s.set.type==1)))&&decide ((s.sigs.length:Int)>0)
def pk(z:az)(b:List Bs)(i:Nat):Bool:=match z.sets[i]?, b[i]? with|some s,some x=> !mP s x|_,_=>false
def pn(z:az)(b:List Bs):Bool:=(List.range z.sets.length).all (pk z b)
def lU(z:az)(i:Nat):Bool:=match z.sets[i]? with|some s=>gk s.sigs z.apex|none=>false
def nP(z:az):Bool:=(List.range z.sets.length).all (lU z)
theorem wrap_add{k:Nat}(hk:k<=4611686018427387904):IntKind.i64.wrap ((k:Int)+1)=(k:Int)+1:=wrap_i64 (by omega) (by omega)
theorem Mk{α:Type}{f:α->List D}{l:List α}{k:Nat}{g:α}(hg:l[k+1]? =some g):(l.map f)[((k:Int)+1).toNat]? =some (f g):=by
 rw[show((k:Int)+1).toNat=k+1 by omega];simp[hg]
end NP
namespace Go.Proofs.YtjapjahfllomkaaGreatDoor
open NQ Go NP Go.RowKit
theorem zh(z:az)(b:List Bs)(hn:z.sets.length<=100000):NQ.Fn cx 158 [.agg (sP z b)] (.d (.bool (aliases z))) []:=by
 refine aB aP mixed Tryz.func158 (by kernel_rfl) rfl (ai rfl) ?_;conv=>whnf
 have hyes:aliases z=(List.range z.sets.length).all (mz z):=rfl;refine⟨Nat,λk=>⟨[(1,.ptr 1 0),(8,.d (.slice 5 (z.sets.map an))),(9,.d (.int .i64 ((z.sets.map an).length:Int))),(10,.d (.int .i64 k))],[(1,.box ((sP z b).map .d))]⟩,λk=>k<=z.sets.length/\(List.range k).all (mz z)=true,λk=>z.sets.length-k,⟨0,⟨by omega,rfl⟩,ag.keep ⟨ab,ab,ab,ab,trivial⟩ ⟨ab,trivial⟩⟩,λk ⟨hk,hall⟩=>?_⟩;(conv=>whnf);refine ae (λh1=>?_) (λh1=>?_) <;> (rw[h1];conv=>whnf)
 . have hlt:k<z.sets.length:=by simp at h1;omega
   obtain⟨s,hs⟩:∃s,z.sets[k]? =some s:=⟨_,ah hlt⟩
   obtain⟨p,hp⟩:∃p,z.sets[k-1]? =some p:=⟨_,ah (by omega)⟩
   obtain⟨x,hx⟩:∃x,x=(z.sets[k+1]?).getD s:=⟨_,rfl⟩
   have hat:mz z k= !tS z.sets.length k s p x:=by simp only[mz,hs,hp,Option.getD_some, <- hx]
   have hno:mz z k=false->aliases z=false:=λhh=>by rw[hyes,bN hlt hh]
   have hxx:k+1<z.sets.length->z.sets[k+1]? =some x:=λhq=>by rw[hx,ah hq];rfl
   clear hx;have hw:=wrap_add (k:=k) (by omega);refine⟨au k,an s,aA hs,?_⟩
   conv=>whnf
   repeat' (first
    |(refine⟨(by kernel_rfl:bc _ _=true),?_⟩;conv=>whnf)
    |(refine af rfl ?_;show AV.d (D.bool false)=_;(try simp only[aj]at *);rw[hno (by rw[hat];simp only[tS, *, if_true,if_false,aD])];done)
    |(refine⟨k+1,⟨by omega,?_⟩,by(show z.sets.length-(k+1)<z.sets.length-k;omega),ag.keep ⟨ab,ab,ab,⟨ak (by omega),rfl⟩,trivial⟩ ⟨ab,trivial⟩⟩;rw[bX,hall,hat];((try simp only[aj]at *);simp only[tS, *, if_true,if_false,aD];done))
    |(rw[hw];(refine ae (λh=>?_) (λh=>?_) <;> (rw[h];conv=>whnf)))
    |(refine ae (λh=>?_) (λh=>?_) <;> (rw[h];conv=>whnf))
    |(refine⟨(ia (by assumption) (by omega)).1,an p,eC (by assumption) (by omega) hp,?_⟩;conv=>whnf)
    |(rw[hw];refine⟨by omega,an x,Mk (by have hq:= ‹decide (((k:Nat):Int)+1<_)=true›;exact hxx (by simp at hq;omega)),?_⟩;conv=>whnf)
    |fail)
 . (refine af rfl ?_;obtain rfl:k=z.sets.length:=(by simp at h1;omega);show AV.d (D.bool true)=_;rw[hyes,hall])
theorem Ev(z:az)(b:List Bs)(hn:z.sets.length<=100000)(hb:b.length=z.sets.length):NQ.Fn cx 159 [.agg (sP z b)] (.d (.bool (nL z b))) []:=by
 refine aB aP mixed Tryz.func159 (by kernel_rfl) rfl (ai rfl) ?_;conv=>whnf
 have hyes:nL z b=(List.range z.sets.length).all (cutAt z b):=rfl;refine⟨Nat,λk=>⟨[(1,.ptr 1 0),(9,.d (.slice 5 (z.sets.map an))),(10,.d (.int .i64 ((z.sets.map an).length:Int))),(11,.d (.int .i64 k))],[(1,.box ((sP z b).map .d))]⟩,λk=>k<=z.sets.length/\(List.range k).all (cutAt z b)=true,λk=>z.sets.length-k,⟨0,⟨by omega,rfl⟩,ag.keep ⟨ab,ab,ab,ab,trivial⟩ ⟨ab,trivial⟩⟩,λk ⟨hk,hall⟩=>?_⟩;(conv=>whnf);refine ae (λh1=>?_) (λh1=>?_) <;> (rw[h1];conv=>whnf)
 . have hlt:k<z.sets.length:=by simp at h1;omega
   obtain⟨s,hs⟩:∃s,z.sets[k]? =some s:=⟨_,ah hlt⟩
   obtain⟨x,hx⟩:∃x,b[k]? =some x:=⟨_,ah (by omega)⟩
   have hat:cutAt z b k= !kg s x:=by simp only[cutAt,hs,hx]
   have hno:cutAt z b k=false->nL z b=false:=λhh=>by rw[hyes,bN hlt hh]
   refine⟨au k,an s,aA hs,?_⟩
   conv=>whnf
   repeat' (first
    |(refine⟨(by kernel_rfl:bc _ _=true),?_⟩;conv=>whnf)
    |(refine af rfl ?_;show AV.d (D.bool false)=_;(try simp only[aj]at *);rw[hno (by rw[hat];simp only[kg, *, if_true,if_false,aD])];done)
    |(refine⟨k+1,⟨by omega,?_⟩,by(show z.sets.length-(k+1)<z.sets.length-k;omega),ag.keep ⟨ab,ab,ab,⟨ak (by omega),rfl⟩,trivial⟩ ⟨ab,trivial⟩⟩;rw[bX,hall,hat];((try simp only[aj]at *);simp only[kg, *, if_true,if_false,aD];done))
    |(refine⟨au k,aJ x,aA hx,?_⟩;conv=>whnf)
    |(refine ae (λh=>?_) (λh=>?_) <;> (rw[h];conv=>whnf))
    |fail)
 . (refine af rfl ?_;obtain rfl:k=z.sets.length:=(by simp at h1;omega);show AV.d (D.bool true)=_;rw[hyes,hall])
theorem E9(z:az)(b:List Bs)(hn:z.sets.length<=100000)(hb:b.length=z.sets.length):NQ.Fn cx 160 [.agg (sP z b)] (.d (.bool (pn z b))) []:=by
 refine aB aP mixed Tryz.func160 (by kernel_rfl) rfl (ai rfl) ?_;conv=>whnf
 have hyes:pn z b=(List.range z.sets.length).all (pk z b):=rfl;refine⟨Nat,λk=>⟨[(1,.ptr 1 0),(9,.d (.slice 5 (z.sets.map an))),(10,.d (.int .i64 ((z.sets.map an).length:Int))),(11,.d (.int .i64 k))],[(1,.box ((sP z b).map .d))]⟩,λk=>k<=z.sets.length/\(List.range k).all (pk z b)=true,λk=>z.sets.length-k,⟨0,⟨by omega,rfl⟩,ag.keep ⟨ab,ab,ab,ab,trivial⟩ ⟨ab,trivial⟩⟩,λk ⟨hk,hall⟩=>?_⟩;(conv=>whnf);refine ae (λh1=>?_) (λh1=>?_) <;> (rw[h1];conv=>whnf)
 . have hlt:k<z.sets.length:=by simp at h1;omega
   obtain⟨s,hs⟩:∃s,z.sets[k]? =some s:=⟨_,ah hlt⟩
   obtain⟨x,hx⟩:∃x,b[k]? =some x:=⟨_,ah (by omega)⟩
   have hat:pk z b k= !mP s x:=by simp only[pk,hs,hx]
   have hno:pk z b k=false->pn z b=false:=λhh=>by rw[hyes,bN hlt hh]
   refine⟨au k,an s,aA hs,?_⟩
   conv=>whnf
   repeat' (first
    |(refine⟨(by kernel_rfl:bc _ _=true),?_⟩;conv=>whnf)
    |(refine af rfl ?_;show AV.d (D.bool false)=_;(try simp only[aj]at *);rw[hno (by rw[hat];simp only[mP, *, if_true,if_false,aD])];done)
    |(refine⟨k+1,⟨by omega,?_⟩,by(show z.sets.length-(k+1)<z.sets.length-k;omega),ag.keep ⟨ab,ab,ab,⟨ak (by omega),rfl⟩,trivial⟩ ⟨ab,trivial⟩⟩;rw[bX,hall,hat];((try simp only[aj]at *);simp only[mP, *, if_true,if_false,aD];done))
    |(refine⟨au k,aJ x,aA hx,?_⟩;conv=>whnf)
    |(refine ae (λh=>?_) (λh=>?_) <;> (rw[h];conv=>whnf))
    |fail)
 . (refine af rfl ?_;obtain rfl:k=z.sets.length:=(by simp at h1;omega);show AV.d (D.bool true)=_;rw[hyes,hall])
theorem CM(z:az)(b:List Bs)(hn:z.sets.length<=100000):NQ.Fn cx 161 [.agg (sP z b)] (.d (.bool (nP z))) []:=by
 refine aB aP mixed Tryz.func161 (by kernel_rfl) rfl (ai rfl) ?_;conv=>whnf
 have hyes:nP z=(List.range z.sets.length).all (lU z):=rfl;refine⟨Nat,λk=>⟨[(1,.ptr 1 0),(8,.d (.slice 5 (z.sets.map an))),(9,.d (.int .i64 ((z.sets.map an).length:Int))),(10,.d (.int .i64 k))],[(1,.box ((sP z b).map .d))]⟩,λk=>k<=z.sets.length/\(List.range k).all (lU z)=true,λk=>z.sets.length-k,⟨0,⟨by omega,rfl⟩,ag.keep ⟨ab,ab,ab,ab,trivial⟩ ⟨ab,trivial⟩⟩,λk ⟨hk,hall⟩=>?_⟩;(conv=>whnf);refine ae (λh1=>?_) (λh1=>?_) <;> (rw[h1];conv=>whnf)
 . have hlt:k<z.sets.length:=by simp at h1;omega
   obtain⟨s,hs⟩:∃s,z.sets[k]? =some s:=⟨_,ah hlt⟩
   have hat:lU z k= !(!gk s.sigs z.apex):=by simp only[lU,hs,oL]
   have hno:lU z k=false->nP z=false:=λhh=>by rw[hyes,bN hlt hh]
   refine⟨au k,an s,aA hs,?_⟩
   conv=>whnf
   repeat' (first
    |(refine⟨(by kernel_rfl:bc _ _=true),?_⟩;conv=>whnf)
    |(refine af rfl ?_;show AV.d (D.bool false)=_;(try simp only[aj]at *);rw[hno (by rw[hat];simp only[lU, *, if_true,if_false,aD])];done)
    |(refine⟨k+1,⟨by omega,?_⟩,by(show z.sets.length-(k+1)<z.sets.length-k;omega),ag.keep ⟨ab,ab,ab,⟨ak (by omega),rfl⟩,trivial⟩ ⟨ab,trivial⟩⟩;rw[bX,hall,hat];((try simp only[aj]at *);simp only[lU, *, if_true,if_false,aD];done))
    |(refine⟨_,_,JL s.sigs z.apex,?_⟩;conv=>whnf)
    |(refine ae (λh=>?_) (λh=>?_) <;> (rw[h];conv=>whnf))
    |fail)
 . (refine af rfl ?_;obtain rfl:k=z.sets.length:=(by simp at h1;omega);show AV.d (D.bool true)=_;rw[hyes,hall])
end Go.Proofs.YtjapjahfllomkaaGreatDoor
namespace NP
open NQ Go
def dt(apex:Bs)(s:Signed):Bool:=(s.set.type==2)&& !(s.set.name==apex)
def hX(apex:Bs):List Signed->List (Bs×D)->List (Bs×D)
 |[],m=>m
 |s::t,m=>hX apex t (if dt apex s=true then dC s.set.name (.bool true) m else m)
def dH(apex:Bs)(l:List Signed)(n:Bs):Bool:=l.any λs=>dt apex s&&(s.set.name==n)
theorem yW(k n:Bs)(v:D):∀m,cM n (dC k v m)=if n=k then some v else cM n m
 |[]=>by simp only[dC,cM]
 |(k',v')::t=>by
  simp only[dC];by_cases h:k=k'
  . subst h;simp only[if_true,cM];by_cases h2:n=k <;> simp only[h2,if_true,if_false]
  . simp only[h,if_false,cM,yW k n v t];by_cases h2:n=k'
    . subst h2;have h3:¬n=k:=λe=>h e.symm
      simp only[if_true,h3,if_false]
    . simp only[h2,if_false]
theorem rf(apex n:Bs):∀(l:List Signed) (m:List (Bs×D)),cM n (hX apex l m)=if dH apex l n=true then some (.bool true)else cM n m
 |[],m=>by simp[hX,dH]
 |s::t,m=>by
  rw[hX,rf apex n t];by_cases h:dt apex s=true
  . rw[if_pos h,yW];by_cases hn:n=s.set.name
    . subst hn;simp[dH,h]
    . have hn' :(s.set.name==n)=false:=by simpa using λe=>hn e.symm
      simp only[hn,if_false,dH,List.any_cons,h,hn',gT,dE]
  . have h' :dt apex s=false:=by simpa using h
    simp only[dH,List.any_cons,h',iM,dE,cr,if_false]
def jU(cut:Bs->Bool)(c n:Bs):Bs :=
 let c' :=if (!(c==[])&& !(bG n c).1)=true then[]else c
 if ((c' ==[])&&cut n)=true then n else c'
def bh(cut:Bs->Bool):Bs->List Signed->List Bs
 |_,[]=>[]
 |c,s::t=>jU cut c s.set.name::bh cut (jU cut c s.set.name) t
def cZ(z:az):List Bs:=bh (dH z.apex z.sets) [] z.sets
theorem tY(cut:Bs->Bool):∀(c:Bs) (l:List Signed),(bh cut c l).length=l.length
 |_,[]=>rfl
 |c,s::t=>by simp[bh,tY cut _ t]
theorem F6(done:List Bs)(n:Nat)(c:Bs):(done++List.replicate (n+1) []).set done.length c=(done++[c])++List.replicate n []:=by
 rw[List.replicate_succ,List.set_append];simp
theorem rh(apex:Bs)(s:Signed):∀(l:List Signed) (m:List (Bs×D)),hX apex (l++[s]) m=if dt apex s=true then dC s.set.name (.bool true) (hX apex l m)else hX apex l m
 |[],m=>rfl
 |x::t,m=>by rw[List.cons_append,hX,hX,rh apex s t]
theorem aV{α:Type}{l:List α}{k:Nat}{x:α}(h:l[k]? =some x):l.take (k+1)=l.take k++[x]:=by
 rw[List.take_add_one,h];rfl
theorem AQ{b:Bool}(h:(!b)=false)(h' :b=false):False:=by subst h';cases h
end NP
namespace Go.Proofs.YtjapjahfllomkaaGreatDoor
open NQ Go NP Go.RowKit
theorem Pz(z:az)(hn:z.sets.length<=100000):NQ.Fn cx 157 [.agg (aM z)] (.agg ((sP z (cZ z)).map .d)) []:=by
 refine aB aP mixed Tryz.func157 (by kernel_rfl) rfl (ai rfl) ?_;conv=>whnf
 refine ⟨Nat, fun k => ⟨[(1, .ptr 1 0), (2, .ptr 2 0), (3, .omap 13), (16, .d (.slice 5 (z.sets.map an))), (17, .d (.int .i64 ((z.sets.map an).length : Int))), (18, .d (.int .i64 k))],
     [(1,.box ((aM z).map .d)),(2,.box [.d (.str []),.nil 5,.nil 1]),(13,.smap (hX z.apex (z.sets.take k) []))]⟩,
  λk=>k<=z.sets.length,λk=>z.sets.length-k,⟨0,by omega,ag.keep ⟨ab,ab,ab,ab,ab,ab,trivial⟩ ⟨ab,ab,ab,trivial⟩⟩,λk hk=>?_⟩
 conv=>whnf
 refine ae (λh1=>?_) (λh1=>?_) <;> (rw[h1];conv=>whnf)
 . have hlt:k<z.sets.length:=by simp at h1;omega
   obtain⟨s,hs⟩:∃s,z.sets[k]? =some s:=⟨_,ah hlt⟩
   refine⟨au k,an s,aA hs,?_⟩
   conv=>whnf
   have hm:=rh z.apex s (z.sets.take k) [];rw[<- aV hs]at hm
   repeat' (first
    |(refine⟨(by kernel_rfl:bc _ _=true),?_⟩;conv=>whnf)
    |(refine⟨k+1,hlt,by(show z.sets.length-(k+1)<z.sets.length-k;omega),ag.keep ⟨ab,ab,ab,ab,ab,⟨ak (by omega),rfl⟩,trivial⟩ ⟨ab,ab,⟨?_,rfl⟩,trivial⟩⟩;show some (Blk.smap _)=some (Blk.smap _);rw[hm];simp only[dt, *, if_true,if_false,aD];done)
    |(refine ae (λh=>?_) (λh=>?_) <;> (rw[h];conv=>whnf))
    |fail)
 . obtain rfl:k=z.sets.length:=by simp at h1;omega
   (refine⟨(by kernel_rfl:bc _ _=true),?_⟩;conv=>whnf)
   refine⟨by omega,.inl rfl,by omega,by(simp only[aj];omega),by(simp only[aj];omega),?_⟩
   conv=>whnf
   refine ⟨Nat × Bs × List Bs, fun x => ⟨[(1, .ptr 1 0), (2, .ptr 2 0), (3, .omap 13), (6, .ptr 6 0), (7, .d (.str x.2.1)), (49, .d (.slice 5 (z.sets.map an))), (50, .d (.int .i64 ((z.sets.map an).length : Int))), (51, .d (.int .i64 x.1))],
       [(1,.box ((aM z).map .d)),(2,.box [.d (.str []),.nil 5,.nil 1]),(13,.smap (hX z.apex z.sets [])),(45,.row 9 1 ((x.2.2++List.replicate (z.sets.length-x.1) []).map aJ) true),(6,.box [.d (.str z.apex),.d (.slice 5 (z.sets.map an)),.own 45])]⟩,
    λx=>x.1<=z.sets.length/\x.2.2.length=x.1/\x.2.2++bh (dH z.apex z.sets) x.2.1 (z.sets.drop x.1)=cZ z,λx=>z.sets.length-x.1,
    ⟨(0,[],[]),⟨by simp,rfl,rfl⟩,ag.keep ⟨ab,ab,ab,ab,ab,ab,ab,ab,trivial⟩ ⟨ab,ab,⟨by(show some (Blk.smap (hX z.apex (z.sets.take z.sets.length) []))=_;rw[List.take_length]),rfl⟩,⟨by(show some (Blk.row _ _ (List.replicate ((z.sets.map an).length:Int).toNat _) true)=some (Blk.row _ _ _ true);simp[aJ];done),rfl⟩,ab,trivial⟩⟩,?_⟩
   rintro⟨k,c,done⟩ ⟨hk,hd,hall⟩;simp only at hk hd hall
   conv=>whnf
   refine ae (λh1=>?_) (λh1=>?_) <;> (rw[h1];conv=>whnf)
   . have hlt:k<z.sets.length:=by simp at h1;omega
     obtain⟨s,hs⟩:∃s,z.sets[k]? =some s:=⟨_,ah hlt⟩
     refine⟨au k,an s,aA hs,?_⟩
     conv=>whnf
     have hdr:z.sets.drop k=s::z.sets.drop (k+1):=by
      obtain⟨hl,he⟩:=av.mp hs;rw[List.drop_eq_getElem_cons hlt,he]
     have hrow:k<((done++List.replicate (z.sets.length-k) []).map aJ).length:=by simp;omega
     have hrep:List.replicate (z.sets.length-k) ([]:Bs)=List.replicate ((z.sets.length-(k+1))+1) []:=by congr 1;omega
     have hset:∀c',((done++List.replicate (z.sets.length-k) []).map aJ).set k (aJ c')=((done++[c'])++List.replicate (z.sets.length-(k+1)) []).map aJ:=λc' =>by
      rw[hrep, <- F6 done _ c',List.map_set,hd]
     rw[hdr,bh]at hall;have hgo:∀c',jU (dH z.apex z.sets) c s.set.name=c' ->(done++[c'])++bh (dH z.apex z.sets) c' (z.sets.drop (k+1))=cZ z:=λc' e=>by
      rw[<- hall,e,List.append_assoc];rfl
     have hf:=rf z.apex s.set.name z.sets [];clear hall hk;obtain⟨q,hq⟩:∃q,dH z.apex z.sets s.set.name=q:=⟨_,rfl⟩
     rw[hq]at hf;have e0:(⟨#[]⟩:ByteArray).data.toList=[]:=rfl;have hrk:((done++List.replicate (z.sets.length-k) []).map aJ)[k]? =some (aJ []):=by
      rw[aL,b9 (by omega),List.getElem?_replicate,if_pos (by omega)];rfl
     repeat' (first
      |(refine⟨_,_,si _ _,?_⟩;conv=>whnf)
      |(refine⟨(by kernel_rfl:bc _ _=true),?_⟩;conv=>whnf)
      |(refine ae (λh=>?_) (λh=>?_) <;> (rw[h];conv=>whnf))
      |(rcases q with _|_ <;> ((try simp only[cr,if_false,if_true,cM]at hf);rw[hf];conv=>whnf))
      |exact(AQ (b:=c==[]) (by assumption) (by assumption)).elim
      |(refine⟨au k,hrow,?_⟩;conv=>whnf)
      |(refine⟨_,hrk,?_⟩;conv=>whnf)
      |(refine⟨(k+1,c,done++[c]),⟨hlt,by simp[hd],hgo _ (by(try simp only[e0]at *);simp only[jU, *, if_true,if_false,aD,beq_self_eq_true];done)⟩,by(show z.sets.length-(k+1)<z.sets.length-k;omega),ag.keep ⟨ab,ab,ab,ab,ab,ab,ab,⟨ak (by omega),rfl⟩,trivial⟩ ⟨ab,ab,ab,⟨by(show some (Blk.row _ _ (List.set _ k (aJ (c))) true)=some (Blk.row _ _ _ true);rw[hset]),rfl⟩,ab,trivial⟩⟩;done)
      |(refine⟨(k+1,[],done++[[]]),⟨hlt,by simp[hd],hgo _ (by(try simp only[e0]at *);simp only[jU, *, if_true,if_false,aD,beq_self_eq_true];done)⟩,by(show z.sets.length-(k+1)<z.sets.length-k;omega),ag.keep ⟨ab,ab,ab,ab,ab,ab,ab,⟨ak (by omega),rfl⟩,trivial⟩ ⟨ab,ab,ab,⟨by(show some (Blk.row _ _ (List.set _ k (aJ ([]))) true)=some (Blk.row _ _ _ true);rw[hset]),rfl⟩,ab,trivial⟩⟩;done)
      |(refine⟨(k+1,s.set.name,done++[s.set.name]),⟨hlt,by simp[hd],hgo _ (by(try simp only[e0]at *);simp only[jU, *, if_true,if_false,aD,beq_self_eq_true];done)⟩,by(show z.sets.length-(k+1)<z.sets.length-k;omega),ag.keep ⟨ab,ab,ab,ab,ab,ab,ab,⟨ak (by omega),rfl⟩,trivial⟩ ⟨ab,ab,ab,⟨by(show some (Blk.row _ _ (List.set _ k (aJ (s.set.name))) true)=some (Blk.row _ _ _ true);rw[hset]),rfl⟩,ab,trivial⟩⟩;done)
      |fail)
   . refine af rfl ?_;obtain rfl:k=z.sets.length:=by simp at h1;omega
     simp only[List.drop_length,bh,List.append_nil]at hall;show AV.agg [_,_,AV.d (.slice 1 ((done++List.replicate (z.sets.length-z.sets.length) []).map aJ))]=_
     rw[Nat.sub_self,List.replicate_zero,List.append_nil,hall];rfl
end Go.Proofs.YtjapjahfllomkaaGreatDoor
namespace NP
open NQ Go
theorem sx:iU db where
 range := fun a b => by unfold db; repeat' split
                        all_goals omega
 zero := fun a b => by unfold db; repeat' split
                       all_goals omega
 anti := fun a b => by unfold db; repeat' split
                       all_goals omega
 lt := fun a b c => by unfold db; repeat' split
                       all_goals omega
theorem bl:iU aH where
 range:=λa b=>np.range _ _
 zero:=λa b=>⟨λh=>sn ((np.zero _ _).1 h),λh=>by subst h;exact(np.zero _ _).2 rfl⟩
 anti:=λa b=>np.anti _ _
 lt:=λa b c=>np.lt _ _ _
def lex{α β:Type}(c:α->α->Int)(e:β->β->Int)(p q:α×β):Int:=if c p.1 q.1=0 then e p.2 q.2 else c p.1 q.1
theorem Ov{α β:Type}{c:α->α->Int}{e:β->β->Int}(hc:iU c)(he:iU e):iU (lex c e) where
 range:=λa b=>by unfold lex;split;exact he.range _ _;exact hc.range _ _
 zero:=λa b=>by
  unfold lex;split
  . rename_i h;rw[he.zero,Prod.ext_iff];exact⟨λk=>⟨(hc.zero _ _).1 h,k⟩,λk=>k.2⟩
  . rename_i h;exact⟨λk=>absurd k h,λk=>absurd ((hc.zero _ _).2 (by rw[k])) h⟩
 anti:=λa b=>by
  unfold lex;rw[hc.anti a.1 b.1];by_cases h:c a.1 b.1=0
  . rw[if_pos h,if_pos (by omega),he.anti]
  . rw[if_neg h,if_neg (by omega)]
 lt:=λa b d=>by
  unfold lex;intro h1 h2;by_cases k1:c a.1 b.1=0
  . have e1:=(hc.zero _ _).1 k1;rw[if_pos k1]at h1;rw[e1];by_cases k2:c b.1 d.1=0
    . rw[if_pos k2]at h2 ⊢;exact he.lt _ _ _ h1 h2
    . rw[if_neg k2]at h2 ⊢;exact h2
  . rw[if_neg k1]at h1;by_cases k2:c b.1 d.1=0
    . have e2:=(hc.zero _ _).1 k2;rw[<- e2,if_neg k1];exact h1
    . rw[if_neg k2]at h2;have h3:=hc.lt _ _ _ h1 h2;rw[if_neg (by omega)];exact h3
abbrev cpl:Bs×Int->Bs×Int->Int:=lex aH db
theorem iZ:iU cpl:=Ov bl sx
theorem sy{a b:Bs}(s t:Int)(ha:ao a=true)(hb:ao b=true):qt a s b t=cpl (a,s) (b,t):=by
 unfold qt cpl lex cC;simp only[ha,hb,and_self,if_true,bl.zero]
def Signed.place(s:Signed):Bs×Int:=(s.set.name,s.set.type)
def aQ.place(q:aQ):Bs×Int:=(q.name,q.type)
def dG:List Signed->Prop
 |[]=>True
 |[_]=>True
 |a::b::t=>cpl a.place b.place<0/\dG (b::t)
theorem P7{a b c:Bs×Int}(h1:0<=cpl a c)(h2:cpl a b<0):0<=cpl b c:=by
 rcases iZ.range b c with h|h|h
 . rcases iZ.range a b with k|k|k
   . have:=iZ.lt a b c k h;omega
   . omega
   . omega
 . omega
 . omega
theorem A1{q:Bs×Int}:∀{l:List Signed} {x:Signed},dG (x::l)->0<=cpl x.place q-> ∀s∈l,0<=cpl s.place q
 |[],_,_,_,s,hs=>by cases hs
 |y::t,x,h,hx,s,hs=>by
  have hy:=P7 hx h.1;rcases List.mem_cons.1 hs with rfl|hs
  . exact hy
  . exact A1 h.2 hy s hs
theorem mr:∀{l:List Signed} {x:Signed},dG (x::l)-> ∀s∈l,cpl x.place s.place<0
 |[],_,_,s,hs=>by cases hs
 |y::t,x,h,s,hs=>by
  rcases List.mem_cons.1 hs with rfl|hs
  . exact h.1
  . have h1:=mr h.2 s hs;have h2:=h.1;rcases iZ.range x.place y.place with a|a|a <;> rcases iZ.range y.place s.place with b|b|b <;> first|omega|skip
    have:=iZ.lt _ _ _ a b;omega
theorem dG.tail{x:Signed}:∀{l:List Signed},dG (x::l)->dG l
 |[],_=>trivial
 |_::_,h=>h.2
def posOf(l:List Signed)(q:aQ):Nat:=(l.takeWhile λs=>decide (cpl s.place q.place<0)).length
def is(q:aQ)(s:Signed):Bool:=(s.set.name==q.name)&&(s.set.type==q.type)
def bR(l:List Signed)(q:aQ):Bool:=l.any (is q)
theorem iD(q:aQ)(s:Signed):is q s=true ↔ s.place=q.place:=by
 simp[is,Signed.place,aQ.place]
theorem DD{s:Signed}{q:aQ}(hs:ao s.set.name=true)(hq:ao q.name=true):plc s q=cpl s.place q.place:=sy _ _ hs hq
theorem xK(q:aQ)(hq:ao q.name=true):∀(l:List Signed),dG l->(∀s∈l,ao s.set.name=true)->Split l q (posOf l q)/\foundAt l q (posOf l q)=bR l q
 |[],_,_=>⟨⟨Nat.le_refl _,λi s h=>(by cases h),λi s h=>(by cases h)⟩,rfl⟩
 |x::l,h,hv=>by
  have hx:=DD (hv x (List.mem_cons_self ..)) hq;by_cases hlt:cpl x.place q.place<0
  . have hp:posOf (x::l) q=posOf l q+1:=by simp[posOf,List.takeWhile_cons,hlt]
    obtain⟨⟨h1,h2,h3⟩,h4⟩:=xK q hq l h.tail λs hs=>hv s (aK _ hs)
    rw[hp];refine⟨⟨by simp;exact h1,?_,?_⟩,?_⟩
    . intro i s hs hi;cases i with
      |zero=>cases hs;omega
      |succ i=>exact h2 i s hs (by omega)
    . intro i s hs hi;cases i with
      |zero=>omega
      |succ i=>exact h3 i s hs (by omega)
    . have hne:is q x=false:=by
       cases hi:is q x with
       |false=>rfl
       |true=>rw[(iD q x).1 hi,(iZ.zero _ _).2 rfl]at hlt;omega
      unfold foundAt at h4 ⊢;rw[List.getElem?_cons_succ,h4];simp[bR,hne]
  . have hp:posOf (x::l) q=0:=by simp[posOf,List.takeWhile_cons,hlt]
    have hge:0<=cpl x.place q.place:=by omega
    rw[hp];refine⟨⟨by omega,λi s _ hi=>by omega,?_⟩,?_⟩
    . intro i s hs _;have hm:=ar hs;rw[DD (hv s hm) hq];rcases List.mem_cons.1 hm with rfl|hm
      . exact hge
      . exact A1 h hge s hm
    . show(plc x q==0)=_
      rw[hx];have hb:(cpl x.place q.place==0)=is q x:=by
       rw[Bool.eq_iff_iff,beq_iff_eq,iZ.zero,iD]
      rw[hb];cases hi:is q x with
      |true=>simp[bR,hi]
      |false =>
       have:bR l q=false:=by
        simp only[bR,List.any_eq_false];intro s hs hs';have h1:=mr h s hs;rw[(iD q s).1 hs']at h1;omega
       simp only[bR,List.any_cons,hi,dE]at this ⊢;exact this.symm
structure Ordered(z:az):Prop where
 apex:ao z.apex=true
 tame:fB z.apex=false
 few:z.sets.length<=20000
 set:∀s∈z.sets,dL s.set=true
 under:∀s∈z.sets,(bG s.set.name z.apex).1=true
 rising:dG z.sets
theorem jB{s:gG}(h:dL s=true):ao s.name=true:=by
 unfold dL at h;simp only[aC,Bool.not_eq_true',Bool.or_eq_false_iff,Bool.not_eq_false']at h;exact h.1.1.1.1.1
theorem A2:∀(l:List Signed),(∀s∈l,ao s.set.name=true)->(∀i p s,l[i]? =some p->l[i+1]? =some s->qt p.set.name p.set.type s.set.name s.set.type<0)->dG l
 |[],_,_=>trivial
 |[_],_,_=>trivial
 | a :: b :: t, hv, h => ⟨by
     have:=h 0 a b rfl rfl
     rwa [sy _ _ (hv a (by simp)) (hv b (by simp))]at this,A2 (b::t) (λs hs=>hv s (aK _ hs)) λi p s hp hs=>h (i+1) p s hp hs⟩
theorem Ordered.of{z:az}(h:ordered z=true):Ordered z:=by
 unfold ordered at h;simp only[aC,Bool.not_eq_true',Bool.or_eq_false_iff,Bool.not_eq_false',decide_eq_false_iff_not,ax,List.mem_range]at h;obtain⟨⟨⟨h1,h2⟩,h3⟩,h4⟩:=h;have hat:∀(i:Nat) s p,z.sets[i]? =some s->z.sets[i-1]? =some p->lN z.apex i s p=false:=by
  intro i s p hs hp;have:=h4 i (av.1 hs).1;rw[qc hs hp]at this;simpa using this
 have hset:∀s∈z.sets,dL s.set=true/\(bG s.set.name z.apex).1=true:=by
  intro s hs;obtain⟨i,hi⟩:=cE hs;obtain⟨hl,_⟩:=av.1 hi;obtain⟨p,hp⟩:∃p,z.sets[i-1]? =some p:=⟨_,ah (by omega)⟩
  have:=hat i s p hi hp;unfold lN at this;simp only[Bool.or_eq_false_iff,Bool.not_eq_false']at this;exact⟨this.1.1,this.1.2⟩
 refine⟨h1,h2,by omega,λs hs=>(hset s hs).1,λs hs=>(hset s hs).2,A2 _ (λs hs=>jB (hset s hs).1) ?_⟩;intro i p s hp hs;have:=hat (i+1) s p hs hp;unfold lN at this;simp only[Bool.or_eq_false_iff,Bool.not_eq_false',Bool.and_eq_false_iff,decide_eq_false_iff_not,beq_iff_eq]at this;rcases this.2 with k|k
 . omega
 . omega
theorem Ordered.name{z:az}(h:Ordered z):∀s∈z.sets,ao s.set.name=true:=λs hs=>jB (h.set s hs)
def aW(z:az):Bool:=ordered z&&iA (λt=>bR z.sets ⟨z.apex,t⟩) z&&(aliases z&&nL z (cZ z)&&pn z (cZ z)&&nP z)
def bx(q:aQ):Bool:=ao q.name&&decide (q.type>=1)&&decide (q.type<=8)
end NP
namespace Go.Proofs.YtjapjahfllomkaaGreatDoor
open NQ Go NP Go.RowKit
theorem zD{z:az}(h:Ordered z)(q:aQ)(hq:ao q.name=true) :
 NQ.Fn cx 87 [.agg (aM z),.agg (cL q)] (.tuple [.d (.int .i64 (posOf z.sets q)),.d (.bool (bR z.sets q))]) []:=by
 obtain⟨h1,h2⟩:=xK q hq z.sets h.rising h.name;have:=N1 z q (posOf z.sets q) (by have:=h.few;omega) h1
 rwa [h2]at this
theorem vq(z:az):NQ.Fn cx 86 [.agg (aM z)] (.d (.bool (aW z))) []:=by
 refine aB aP mixed Tryz.func86 (by kernel_rfl) rfl (ai rfl) ?_;conv=>whnf
 (refine⟨_,_,HH z,?_⟩;conv=>whnf)
 (refine ae (λh=>?_) (λh=>?_) <;> (rw[h];conv=>whnf))
 . (refine af rfl ?_;show AV.d (D.bool false)=_;(try simp only[Bool.not_eq_true',Bool.not_eq_false',aj]at *);simp only[aW, *, if_true,if_false,aD];done)
 have ho:Ordered z:=Ordered.of (by simpa using h);have hn:z.sets.length<=100000:=by have:=ho.few;omega
 have hb:(cZ z).length=z.sets.length:=tY _ _ _
 (refine⟨_,_,Cb z hn _ _ (λt=>zD ho ⟨z.apex,t⟩ ho.apex),?_⟩;conv=>whnf)
 (refine ae (λh=>?_) (λh=>?_) <;> (rw[h];conv=>whnf))
 . (refine af rfl ?_;show AV.d (D.bool false)=_;(try simp only[Bool.not_eq_true',Bool.not_eq_false',aj]at *);simp only[aW, *, if_true,if_false,aD];done)
 (refine⟨_,_,Pz z hn,?_⟩;conv=>whnf)
 have hv:aW z=(aliases z&&nL z (cZ z)&&pn z (cZ z)&&nP z):=by
  simp only[Bool.not_eq_false']at *;simp only[aW, *, if_true,if_false,aD]
 (refine⟨_,_,zh z _ hn,?_⟩;conv=>whnf)
 repeat' (first|(refine⟨_,_,Ev z _ hn hb,?_⟩;conv=>whnf)|(refine⟨_,_,E9 z _ hn hb,?_⟩;conv=>whnf)|(refine⟨_,_,CM z _ hn,?_⟩;conv=>whnf)|(refine⟨(by kernel_rfl:bc _ _=true),?_⟩;conv=>whnf)|(refine ae (λh=>?_) (λh=>?_) <;> (rw[h];conv=>whnf))|fail)
 all_goals first
  |(refine af rfl ?_;show AV.d (D.bool false)=_;rw[hv];simp only[*, if_true,if_false,aD];done)
  |(refine af rfl ?_;show AV.d (D.bool (nP z))=_;rw[hv];simp only[*, if_true,if_false,aD];done)
  |fail
end Go.Proofs.YtjapjahfllomkaaGreatDoor
namespace NP
open NQ Go
theorem wo{s:Bs}(h:ao s=true):aT (bu s)=(aT s).tail:=rr (yH (List.tail_suffix _) (oI h))
theorem dR{s:Bs}(h:ao s=true):ao (bu s)=true:=D4 (List.tail_suffix _) h
theorem iP{n z:Bs}(hn:ao n=true)(h:aF n z=true)(hne:n≠z):n≠[46]/\aF (bu n) z=true/\(aT (bu n)).length+1=(aT n).length:=by
 unfold aF at h ⊢;rw[wo hn];have hs:=List.isSuffixOf_iff_suffix.1 h;cases hl:aT n with
 |nil =>
  rw[hl]at hs;have:aT z=[]:=List.suffix_nil.1 hs;exact absurd (xw (by rw[hl,this])) hne
 |cons x t =>
  rw[hl]at hs;refine⟨λe=>by rw[e]at hl;simp[aT]at hl,?_,by simp⟩;rcases List.suffix_cons_iff.1 hs with k|k
  . exact absurd (xw (by rw[hl,k])) hne
  . exact List.isSuffixOf_iff_suffix.2 k
theorem LK{l:List Signed}{q:aQ}{c:Nat}(h:foundAt l q c=true):∃s,l[c]? =some s/\plc s q=0:=by
 unfold foundAt at h;split at h
 . rename_i s hs;exact⟨s,hs,by simpa using h⟩
 . cases h
theorem xi{z:az}(ho:Ordered z){q:aQ}(hq:ao q.name=true)(h:bR z.sets q=true):∃s,z.sets[posOf z.sets q]? =some s/\s∈z.sets/\s.place=q.place:=by
 obtain⟨_,h2⟩:=xK q hq z.sets ho.rising ho.name;rw[h]at h2;obtain⟨s,hs,hp⟩:=LK h2;have hm:=ar hs;exact⟨s,hs,hm,(iZ.zero _ _).1 (by rw[<- DD (ho.name s hm) hq];exact hp)⟩
theorem bB{z:az}(h:aW z=true):Ordered z:=by
 unfold aW at h;simp only[aC]at h;exact Ordered.of h.1.1
theorem qI{s:gG}(h:dL s=true):∃d,s.data[0]? =some d:=by
 unfold dL at h;simp only[aC,Bool.not_eq_true',Bool.or_eq_false_iff,Bool.not_eq_false']at h;have h1:=h.1.1.2;unfold within at h1;simp at h1;exact⟨_,ah (by omega)⟩
def gC(z:az):Int:=match z.sets[posOf z.sets ⟨z.apex,4⟩]? with|some s=>(match s.set.data[0]? with|some d=>d.n|none=>0)|none=>0
def dX(z:az):Int×Int:=if (!aW z)=true then(0,1)else(gC z,0)
def lS(z:az):Nat->Bs->Option Bs
 |0,_=>none
 |f+1,n=>if n=z.apex then none else if bR z.sets ⟨n,2⟩=true then some n else lS z f (bu n)
def ri(z:az)(s:Bs):Option Bs:=lS z ((aT s).length+1) s
def eh(z:az)(s:Bs):Bs×Bool×Int :=
 if (!ao s|| !aW z)=true then([],false,1)else if (!(bG s z.apex).1)=true then([],false,20)
 else match ri z s with|some c=>(c,true,0)|none=>([],false,0)
end NP
namespace Go.Proofs.YtjapjahfllomkaaGreatDoor
open NQ Go NP Go.RowKit
theorem A6(z:az):NQ.Fn cx 132 [.agg (aM z)] (.tuple [.d (.int .i64 (dX z).1),.d (.int .i64 (dX z).2)]) []:=by
 refine aB aP mixed Tryz.func132 (by kernel_rfl) rfl (ai rfl) ?_;conv=>whnf
 (refine⟨_,_,vq z,?_⟩;conv=>whnf)
 (refine ae (λh=>?_) (λh=>?_) <;> (rw[h];conv=>whnf))
 . refine af rfl ?_;rw[dX,if_pos h];rfl
 have hv:aW z=true:=by simpa using h
 have ho:=bB hv
 (refine⟨_,_,zD ho ⟨z.apex,4⟩ ho.apex,?_⟩;conv=>whnf)
 have hh:bR z.sets ⟨z.apex,4⟩=true:=by
  unfold aW iA at hv;simp only[aC]at hv;exact hv.1.2.1.1
 obtain⟨s,hs,hm,_⟩:=xi ho (q:=⟨z.apex,4⟩) ho.apex hh;obtain⟨d,hd⟩:=qI (ho.set s hm);refine⟨au _,an s,aA hs,?_⟩
 conv=>whnf
 refine⟨by decide,bd d,aA (k:=0) hd,?_⟩
 conv=>whnf
 refine af rfl ?_;rw[dX,if_neg (by simp[hv])];simp only[gC,hs,hd];rfl
theorem Pj(z:az)(s:Bs):NQ.Fn cx 37 [.agg (aM z),.str s] (.tuple [.d (.str (eh z s).1),.d (.bool (eh z s).2.1),.d (.int .i64 (eh z s).2.2)]) []:=by
 refine aB aP mixed Tryz.func37 (by kernel_rfl) rfl (ai rfl) ?_;conv=>whnf
 (refine⟨_,_,j9 s,?_⟩;conv=>whnf)
 (refine ae (λh=>?_) (λh=>?_) <;> (rw[h];conv=>whnf))
 . refine af rfl ?_;rw[eh,h];rfl
 (refine⟨_,_,vq z,?_⟩;conv=>whnf)
 (refine ae (λh=>?_) (λh=>?_) <;> (rw[h];conv=>whnf))
 . refine af rfl ?_;rw[eh,if_pos (by simp only[*, if_true,if_false,aD])];rfl
 have hvs:ao s=true:=by simp only[Bool.not_eq_false']at *; assumption
 have hv:aW z=true:=by simp only[Bool.not_eq_false']at *; assumption
 have ho:=bB hv;have h0:¬(!ao s|| !aW z)=true:=by simp[hvs,hv]
 (refine⟨_,_,si s z.apex,?_⟩;conv=>whnf)
 (refine ae (λh=>?_) (λh=>?_) <;> (rw[h];conv=>whnf))
 . refine af rfl ?_;rw[eh,if_neg h0,if_pos (by assumption)];rfl
 have hu:bG s z.apex=(true,0):=by
  have h3:(bG s z.apex).1=true:=by simp only[Bool.not_eq_false']at *; assumption
  unfold bG at h3 ⊢;rw[if_pos ⟨hvs,ho.apex⟩]at h3 ⊢;rw[show aF s z.apex=true from h3]
 have hR:eh z s=(match ri z s with|some c=>(c,true,0)|none=>([],false,0)):=by
  rw[eh,if_neg h0,hu];rfl
 have hun:aF s z.apex=true:=by
  unfold bG at hu;rw[if_pos ⟨hvs,ho.apex⟩]at hu;exact(Prod.mk.inj hu).1
 refine⟨Bs,λn=>⟨[(2,.ptr 2 0),(9,.ptr 9 0),(10,.d (.str n))],[(2,.box ((aM z).map .d)),(9,.box ((aM z).map .d))]⟩,
  λn=>ao n=true/\aF n z.apex=true/\lS z ((aT n).length+1) n=ri z s,λn=>(aT n).length,
  ⟨s,⟨hvs,hun,rfl⟩,ag.keep ⟨ab,ab,ab,trivial⟩ ⟨ab,ab,trivial⟩⟩,λn ⟨hvn,hn,hc⟩=>?_⟩
 conv=>whnf
 refine ae (λh1=>?_) (λh1=>?_) <;> (rw[h1];conv=>whnf)
 . have hne:n≠z.apex:=by simpa using h1
   obtain⟨k1,k2,k3⟩:=iP hvn hn hne;rw[lS,if_neg hne]at hc
   (refine⟨_,_,zD ho ⟨n,2⟩ hvn,?_⟩;conv=>whnf)
   refine ae (λh2=>?_) (λh2=>?_) <;> (rw[h2];conv=>whnf)
   . refine af rfl ?_;rw[if_pos h2]at hc;rw[hR, <- hc];rfl
   . rw[if_neg (by rw[h2];exact Bool.false_ne_true), <- k3]at hc;have hp:dN n=(bu n,0):=by unfold dN;rw[if_pos hvn,if_neg k1]
     have hpf:=nZ n;rw[hp]at hpf
     (refine⟨_,_,hpf,?_⟩;conv=>whnf)
     exact⟨bu n,⟨dR hvn,k2,hc⟩,by(show(aT (bu n)).length<(aT n).length;omega),ag.keep ⟨ab,ab,ab,trivial⟩ ⟨ab,ab,trivial⟩⟩
 . have hne:n=z.apex:=by simpa using h1
   rw[lS,if_pos hne]at hc;refine af rfl ?_;rw[hR, <- hc];rfl
end Go.Proofs.YtjapjahfllomkaaGreatDoor
namespace NP
open NQ Go
def nQ(l:List Bs):Bs:=(l[l.length-1]?).getD []
theorem vD{acc:List Bs}(h:(((acc.map aJ).length:Int)==0)=false):acc.length≠0:=by simp at h;simpa using h
theorem L9{acc:List Bs}(h:(((acc.map aJ).length:Int)==0)=false):(acc.map aJ)[((acc.length-1:Nat):Int).toNat]? =some (aJ (nQ acc)):=by
 have h' :=vD h;rw[Int.toNat_natCast,aL,nQ,ah (by omega)];rfl
theorem JU{acc:List Bs}(hl:acc.length<=100000)(h:(((acc.map aJ).length:Int)==0)=false):IntKind.i64.wrap (((acc.map aJ).length:Int)-1)=((acc.length-1:Nat):Int):=by
 have h' :=vD h;rw[aj,wrap_i64 (by omega) (by omega)];omega
theorem Ol{acc:List Bs}(h:(((acc.map aJ).length:Int)==0)=false):((acc.length-1:Nat):Int).toNat<(acc.map aJ).length:=by
 have h' :=vD h;simp;omega
end NP
namespace Go.Proofs.YtjapjahfllomkaaGreatDoor
open NQ Go NP Go.RowKit
end Go.Proofs.YtjapjahfllomkaaGreatDoor
namespace NP
open NQ Go
def sc(c:Int):Bool:=((decide (c<97)||decide (c>122))&&(decide (c<48)||decide (c>57)))&&(c != 32)
theorem Bk(c:UInt8):sc (c.toNat:Int)= !fk c:=by
 have:∀n:Fin 256,sc ((UInt8.ofNat n.val).toNat:Int)= !fk (UInt8.ofNat n.val):=by decide +kernel
 have h:=this ⟨c.toNat,c.toNat_lt⟩;simpa using h
def pq(s:Bs)(i:Nat):Bool:=match s[i]? with|some c=> !sc (c.toNat:Int)|none=>false
theorem OW(s:Bs):(List.range s.length).all (pq s)=s.all fk:=by
 rw[Bool.eq_iff_iff,ax,ax];constructor
 . intro h x hx;obtain⟨j,hj,rfl⟩:=List.getElem_of_mem hx;have:=h j (List.mem_range.2 hj);simp only[pq,ah hj,Bk,oL]at this;exact this
 . intro h i hi;have hi:=List.mem_range.1 hi;simp only[pq,ah hi,Bk,oL];exact h _ (List.getElem_mem hi)
def vk(s:Bs)(a b:UInt8):Bool:= !(decide ((s.length:Int)<1)||decide ((s.length:Int)>40)||((a.toNat:Int)==32)||((b.toNat:Int)==32))&&(List.range s.length).all (pq s)
theorem Iu{s:Bs}(h:¬s.length=0)(a b:UInt8)(ha:s[0]? =some a)(hb:s[s.length-1]? =some b):vk s a b=cj s:=by
 have e1:((a.toNat:Int)==32)=(a==32):=by rw[Bool.eq_iff_iff,beq_iff_eq,beq_iff_eq, <- UInt8.toNat_inj];simp;omega
 have e2:((b.toNat:Int)==32)=(b==32):=by rw[Bool.eq_iff_iff,beq_iff_eq,beq_iff_eq, <- UInt8.toNat_inj];simp;omega
 have h1:s.head? =some a:=by rw[List.head?_eq_getElem?,ha]
 have h2:s.getLast? =some b:=by rw[List.getLast?_eq_getElem?,hb]
 unfold vk cj;rw[e1,e2,h1,h2,OW];rw[Bool.eq_iff_iff];simp
 intros;omega
end NP
namespace Go.Proofs.YtjapjahfllomkaaGreatDoor
open NQ Go NP Go.RowKit
theorem xP(s:Bs):NQ.Fn cx 246 [.str s] (.d (.bool (fB s))) []:=by
 refine aB aP mixed Tryz.func246 (by kernel_rfl) rfl (ai rfl) ?_;conv=>whnf
 (refine ae (λh=>?_) (λh=>?_) <;> (rw[h];conv=>whnf))
 . cases s with
   |nil=>simp at h
   |cons c t =>
    refine⟨by decide,c,rfl,?_⟩
    conv=>whnf
    refine af rfl ?_;show AV.d (D.bool ((c.toNat:Int)==42))=_
    rw[fB,List.head?_cons];have:((c.toNat:Int)==42)=(c==42):=by rw[Bool.eq_iff_iff,beq_iff_eq,beq_iff_eq, <- UInt8.toNat_inj];simp;omega
    rw[this];rfl
 . refine af rfl ?_;cases s with
   |nil=>rfl
   |cons c t=>simp at h
theorem wQ(n a b:Int):NQ.Fn cx 244 [.int .i64 n,.int .i64 a,.int .i64 b] (.d (.bool (within n a b))) []:=by
 refine aB aP mixed Tryz.func244 (by kernel_rfl) rfl (ai rfl) ?_;conv=>whnf
 (refine ae (λh=>?_) (λh=>?_) <;> (rw[h];conv=>whnf))
 . refine af rfl ?_;show AV.d (D.bool _)=_;simp only[within,ge_iff_le]at *; rw[h];rfl
 . refine af rfl ?_;show AV.d (D.bool _)=_;simp only[within,ge_iff_le]at *; rw[h];rfl
theorem Fa(n:Int):NQ.Fn cx 245 [.int .i64 n] (.d (.bool ((n==3)||(n==4)))) []:=by
 refine aB aP mixed Tryz.func245 (by kernel_rfl) rfl (ai rfl) ?_;conv=>whnf
 (refine ae (λh=>?_) (λh=>?_) <;> (rw[h];conv=>whnf)) <;> exact af rfl rfl
theorem Kw(s:Bs):NQ.Fn cx 293 [.str s] (.d (.bool (cj s))) []:=by
 refine aB aP mixed Tryz.func293 (by kernel_rfl) rfl (ai rfl) ?_;conv=>whnf
 (refine ae (λh=>?_) (λh=>?_) <;> (rw[h];conv=>whnf))
 . refine af rfl ?_;show AV.d (D.bool false)=_
   have:s.length=0:=by simp at h;omega
   have:s=[]:=List.length_eq_zero_iff.1 this;subst this;rfl
 have h0:¬s.length=0:=by simp at h;omega
 obtain⟨a,ha⟩:∃a,s[0]? =some a:=⟨_,ah (by omega)⟩
 obtain⟨b,hb⟩:∃b,s[s.length-1]? =some b:=⟨_,ah (by omega)⟩
 rw[<- Iu h0 a b ha hb]
 (refine ae (λh=>?_) (λh=>?_) <;> (rw[h];conv=>whnf))
 . (refine af rfl ?_;show AV.d (D.bool false)=_;(try simp only[aj]at *);simp only[vk, *, if_true,if_false,aD];done)
 have hl:s.length<=40:=by simp at *; omega
 have hw:IntKind.i64.wrap ((s.length:Int)-1)=((s.length-1:Nat):Int):=by rw[wrap_i64 (by omega) (by omega)];omega
 refine⟨by decide,a,ha,?_⟩
 conv=>whnf
 (refine ae (λh=>?_) (λh=>?_) <;> (rw[h];conv=>whnf))
 . (refine af rfl ?_;show AV.d (D.bool false)=_;(try simp only[aj]at *);simp only[vk, *, if_true,if_false,aD];done)
 rw[hw];refine⟨au _,b,by(rw[Int.toNat_natCast];exact hb),?_⟩
 conv=>whnf
 (refine ae (λh=>?_) (λh=>?_) <;> (rw[h];conv=>whnf))
 . (refine af rfl ?_;show AV.d (D.bool false)=_;(try simp only[aj]at *);simp only[vk, *, if_true,if_false,aD];done)
 have hyes:vk s a b=(List.range s.length).all (pq s):=by simp only[vk, *, if_true,if_false,aD]
 refine⟨Nat,λk=>⟨[(0,.d (.str s)),(3,.d (.int .i64 (s.length:Int))),(4,.d (.int .i64 k))],[]⟩,λk=>k<=s.length/\(List.range k).all (pq s)=true,λk=>s.length-k,⟨0,⟨by omega,rfl⟩,ag.keep ⟨ab,ab,ab,trivial⟩ trivial⟩,λk ⟨hk,hall⟩=>?_⟩;(conv=>whnf);refine ae (λh1=>?_) (λh1=>?_) <;> (rw[h1];conv=>whnf)
 . have hlt:k<s.length:=by simp at h1;omega
   obtain⟨c,hc⟩:∃c,s[k]? =some c:=⟨_,ah hlt⟩
   have hat:pq s k= !sc (c.toNat:Int):=by simp only[pq,hc]
   have hno:pq s k=false->vk s a b=false:=λhh=>by rw[hyes,bN hlt hh]
   refine⟨au k,c,by(rw[Int.toNat_natCast];exact hc),?_⟩
   conv=>whnf
   repeat' (first
    |(refine af rfl ?_;show AV.d (D.bool false)=_;(try simp only[aj]at *);rw[hno (by rw[hat];simp only[sc, *, if_true,if_false,aD])];done)
    |(refine⟨k+1,⟨by omega,?_⟩,by(show s.length-(k+1)<s.length-k;omega),ag.keep ⟨ab,ab,⟨ak (by omega),rfl⟩,trivial⟩ trivial⟩;rw[bX,hall,hat];((try simp only[aj]at *);simp only[sc, *, if_true,if_false,aD];done))
    |(refine ae (λh=>?_) (λh=>?_) <;> (rw[h];conv=>whnf))
    |fail)
 . (refine af rfl ?_;obtain rfl:k=s.length:=(by simp at h1;omega);show AV.d (D.bool true)=_;rw[hyes,hall])
theorem GK(t:Int)(d:Datum):NQ.Fn cx 247 [.int .i64 t,.agg (bd d)] (.d (.bool (within t 1 8&&dZ (eH t) d))) []:=by
 refine aB aP mixed Tryz.func247 (by kernel_rfl) rfl (ai rfl) ?_;conv=>whnf
 repeat' (first|(refine⟨_,_,wQ _ _ _,?_⟩;conv=>whnf)|(refine⟨_,_,xP _,?_⟩;conv=>whnf)|(refine⟨_,_,mg _,?_⟩;conv=>whnf)|(refine⟨_,_,Kw _,?_⟩;conv=>whnf)|(refine ae (λh=>?_) (λh=>?_) <;> (rw[h];conv=>whnf))|fail)
 all_goals
  refine af rfl ?_
  first
   |(simp_all [D.cV,eH,dZ,jh];done)
   |(simp_all [D.cV,eH,dZ,jh,within];done)
   |(simp_all [D.cV,eH,dZ,jh,within];(try rw[Bool.eq_iff_iff]);(try simp_all);(try omega))
   |skip
theorem JW(a b:Datum):NQ.Fn cx 248 [.agg (bd a),.agg (bd b)] (.d (.bool (decide (px a b<0)))) []:=by
 refine aB aP mixed Tryz.func248 (by kernel_rfl) rfl (ai rfl) ?_;conv=>whnf
 (refine ae (λh=>?_) (λh=>?_) <;> (rw[h];conv=>whnf))
 . have hz:¬Go.Lib.compareBytes a.text b.text=0:=λe=>by
    rw[(bV.zero _ _).1 e]at h;simp at h
   refine af rfl ?_;rw[px,if_neg hz];show AV.d (D.bool (Op.bytesLess a.text b.text))=_
   rw[oO]
   congr 2;rw[decide_eq_decide]
   rcases bV.range a.text b.text with e|e|e <;> omega
 . have hz:Go.Lib.compareBytes a.text b.text=0:=(bV.zero _ _).2 (by simpa using h);rw[px,if_pos hz]
   (refine ae (λh=>?_) (λh=>?_) <;> (rw[h];conv=>whnf))
   . have hz:¬db a.n b.n=0:=λe=>by
      rw[(sx.zero _ _).1 e]at h;simp at h
     refine af rfl ?_;rw[if_neg hz];show AV.d (D.bool (decide (a.n<b.n)))=_
     congr 2;rw[decide_eq_decide];unfold db;split <;> (try split) <;> omega
   . have hz:db a.n b.n=0:=(sx.zero _ _).2 (by simpa using h);refine af rfl ?_;rw[if_pos hz];show AV.d (D.bool (decide (a.m<b.m)))=_
     congr 2;rw[decide_eq_decide];unfold db;split <;> (try split) <;> omega
theorem Hz(a b:gG)(ha:ao a.name=true)(hb:ao b.name=true):NQ.Fn cx 249 [.agg (mO a),.agg (mO b)] (.d (.int .i64 (cpl (a.name,a.type) (b.name,b.type)))) []:=by
 refine aB aP mixed Tryz.func249 (by kernel_rfl) rfl (ai rfl) ?_;conv=>whnf
 (refine⟨_,_,Eg _ _ ha hb,?_⟩;conv=>whnf)
 repeat' (first|(refine ae (λh=>?_) (λh=>?_) <;> (rw[h];conv=>whnf))|fail)
 all_goals
  refine af rfl ?_
  simp_all [D.cV,cpl,lex,db]
 rw[if_neg (by omega),if_neg (by omega)]
end Go.Proofs.YtjapjahfllomkaaGreatDoor
namespace NP
open NQ Go
def vM(t:Int)(i:Nat)(d p:Datum):Bool:= !(within t 1 8&&dZ (eH t) d)||(decide ((i:Int)>0)&& !decide (px p d<0))
def rD(t:Int)(l:List Datum)(i:Nat):Bool:=match l[i]?, l[i-1]? with|some d,some p=> !vM t i d p|_,_=>false
def xG(s:gG):Bool :=
 !((!ao s.name|| !within s.type 1 8|| !within s.life 0 100000|| !within s.data.length 1 8||(((s.type==3)||(s.type==4))&&decide ((s.data.length:Int)>1))) ||
  (fB s.name&&(s.type != 1)&&(s.type != 5)&&(s.type != 8)))&&(List.range s.data.length).all (rD s.type s.data)
theorem OO(s:gG):xG s=dL s:=by
 by_cases ht:within s.type 1 8=true
 . have h8:s.type=1\/s.type=2\/s.type=3\/s.type=4\/s.type=5\/s.type=6\/s.type=7\/s.type=8:=by
    unfold within at ht;simp at ht;omega
   have hat:∀i,rD s.type s.data i=nM (eH s.type) s.data i:=by
    intro i;unfold rD nM;cases s.data[i]? with
    |none=>rfl
    |some d =>
     cases s.data[i-1]? with
     |none=>rfl
     |some p =>
      show(!vM s.type i d p)= !mD (eH s.type) i d p
      unfold vM mD;rw[ht,dF]
      congr 3
      rw[Bool.eq_iff_iff];simp
   have hall:(List.range s.data.length).all (rD s.type s.data)=(List.range s.data.length).all (nM (eH s.type) s.data):=by
    rw[show rD s.type s.data=nM (eH s.type) s.data from funext hat]
   unfold xG dL;rw[hall,ht];cases hw:within (s.data.length:Int) 1 8
   . simp
   have hl:1<=s.data.length:=by unfold within at hw;simp at hw;omega
   congr 1
   have e1:((s.data.length:Int) != 1)=decide ((s.data.length:Int)>1):=by
    rw[Bool.eq_iff_iff];simp;omega
   rw[e1];rcases h8 with h|h|h|h|h|h|h|h <;> simp[h,eH] <;> cases ao s.name <;> cases within s.life 0 100000 <;> cases fB s.name <;> simp
 . have ht:within s.type 1 8=false:=by simpa using ht
   simp[xG,dL,ht]
end NP
namespace Go.Proofs.YtjapjahfllomkaaGreatDoor
open NQ Go NP Go.RowKit
theorem DS(s:gG):NQ.Fn cx 186 [.agg (mO s)] (.d (.bool (dL s))) []:=by
 rw[<- OO];refine aB aP mixed Tryz.func186 (by kernel_rfl) rfl (ai rfl) ?_;conv=>whnf
 repeat' (first|(refine af rfl ?_;show AV.d (D.bool false)=_;(try simp only[aj]at *);simp only[xG, *, if_true,if_false,aD];done)|(refine⟨_,_,mg _,?_⟩;conv=>whnf)|(refine⟨_,_,wQ _ _ _,?_⟩;conv=>whnf)|(refine⟨_,_,Fa _,?_⟩;conv=>whnf)|(refine⟨_,_,xP _,?_⟩;conv=>whnf)|(refine ae (λh=>?_) (λh=>?_) <;> (rw[h];conv=>whnf))|fail)
 all_goals
  have hlen:s.data.length<=8:=by
   have hh:= ‹(!within (↑(List.map bd s.data).length) 1 8)=false›;unfold within at hh;simp at hh;omega
  have hyes:xG s=(List.range s.data.length).all (rD s.type s.data):=by
   simp only[aj]at *;simp only[xG, *, if_true,if_false,aD]
  refine⟨Nat,λk=>⟨[(1,.ptr 1 0),(3,.d (.int .i64 ((s.data.map bd).length:Int))),(4,.d (.int .i64 k))],[(1,.box ((mO s).map .d))]⟩,λk=>k<=s.data.length/\(List.range k).all (rD s.type s.data)=true,λk=>s.data.length-k,⟨0,⟨by omega,rfl⟩,ag.keep ⟨ab,ab,ab,trivial⟩ ⟨ab,trivial⟩⟩,λk ⟨hk,hall⟩=>?_⟩;(conv=>whnf);refine ae (λh1=>?_) (λh1=>?_) <;> (rw[h1];conv=>whnf)
  . have hlt:k<s.data.length:=by simp at h1;omega
    obtain⟨d,hd⟩:∃d,s.data[k]? =some d:=⟨_,ah hlt⟩
    obtain⟨p,hp⟩:∃p,s.data[k-1]? =some p:=⟨_,ah (by omega)⟩
    have hat:rD s.type s.data k= !vM s.type k d p:=by simp only[rD,hd,hp]
    have hno:rD s.type s.data k=false->xG s=false:=λhh=>by rw[hyes,bN hlt hh]
    repeat' (first
     |(refine⟨(by kernel_rfl:bc _ _=true),?_⟩;conv=>whnf)
     |(refine af rfl ?_;show AV.d (D.bool false)=_;(try simp only[aj]at *);rw[hno (by rw[hat];simp only[vM, *, if_true,if_false,aD])];done)
     |(refine⟨k+1,⟨by omega,?_⟩,by(show s.data.length-(k+1)<s.data.length-k;omega),ag.keep ⟨ab,ab,⟨ak (by omega),rfl⟩,trivial⟩ ⟨ab,trivial⟩⟩;rw[bX,hall,hat];((try simp only[aj]at *);simp only[vM, *, if_true,if_false,aD];done))
     |(refine⟨_,_,GK _ _,?_⟩;conv=>whnf)
     |(refine⟨_,_,JW _ _,?_⟩;conv=>whnf)
     |(refine⟨(ia (by assumption) (by omega)).1,bd p,eC (by assumption) (by omega) hp,?_⟩;conv=>whnf)
     |(refine⟨au k,bd d,aA hd,?_⟩;conv=>whnf)
     |(refine ae (λh=>?_) (λh=>?_) <;> (rw[h];conv=>whnf))
     |fail)
  . (refine af rfl ?_;obtain rfl:k=s.data.length:=(by simp at h1;omega);show AV.d (D.bool true)=_;rw[hyes,hall])
end Go.Proofs.YtjapjahfllomkaaGreatDoor
namespace NP
open NQ Go
def atI(l:List Signed)(q:aQ):Int:=match l.findIdx? (is q)with|some k=>(k:Int)|none=> -1
theorem iX(l:List Signed)(q:aQ):decide (atI l q<0)= !bR l q:=by
 unfold atI bR;cases h:l.findIdx? (is q)with
 |some k =>
  have:=List.findIdx?_eq_some_iff_getElem.1 h;obtain⟨hk,h1,_⟩:=this;have:l.any (is q)=true:=List.any_eq_true.2 ⟨_,List.getElem_mem hk,h1⟩;rw[this];simp
 |none =>
  have:=List.findIdx?_eq_none_iff.1 h;have:l.any (is q)=false:=by rw[List.any_eq_false];intro x hx;rw[this x hx];simp
  rw[this];simp
def pV(l:List Signed)(q:aQ)(i:Nat):Bool:=match l[i]? with|some x=> !is q x|none=>true
theorem NM{l:List Signed}{q:aQ}{k:Nat}{s:Signed}(hk:l[k]? =some s)(hs:is q s=true)(hb:(List.range k).all (pV l q)=true):atI l q=k:=by
 obtain⟨hl,e⟩:=av.1 hk;have:l.findIdx? (is q)=some k:=List.findIdx?_eq_some_iff_getElem.2 ⟨hl,by rw[e];exact hs,λj hj=>by
  have:=ax.1 hb j (List.mem_range.2 hj);simp only[pV,ah (show j<l.length by omega)]at this;simpa using this⟩
 rw[atI,this]
theorem K5{l:List Signed}{q:aQ}(hb:(List.range l.length).all (pV l q)=true):atI l q= -1:=by
 have:l.findIdx? (is q)=none:=List.findIdx?_eq_none_iff.2 λx hx=>by
  obtain⟨j,hj,rfl⟩:=List.getElem_of_mem hx;have:=ax.1 hb j (List.mem_range.2 hj);simp only[pV,ah hj]at this;simpa using this
 rw[atI,this]
def qx(z:az)(i:Nat):Bool:=match z.sets[i]? with|some s=> !(decide ((s.set.data.length:Int)>20)||decide ((s.sigs.length:Int)>20))|none=>false
def fh(z:az):Bool:=decide ((z.sets.length:Int)<=100)&&(List.range z.sets.length).all (qx z)
def qD(apex:Bs)(i:Nat)(s p:Signed):Bool:= !dL s.set|| !aF s.set.name apex||(decide ((i:Int)>0)&&decide (cpl (p.set.name,p.set.type) (s.set.name,s.set.type)>=0))
def rA(z:az)(i:Nat):Bool:=match z.sets[i]?, z.sets[i-1]? with|some s,some p=> !qD z.apex i s p|_,_=>false
def xz(z:az):Bool:= !((!ao z.apex||fB z.apex)||decide ((z.sets.length:Int)>20000))&&(List.range z.sets.length).all (rA z)
def uF(i:Nat)(apex:Bs)(g f p:Sig):Bool :=
 (!(g.zone==apex)||decide (g.key<1)||decide (g.key>1000000)||decide (g.alg<1)||decide (g.alg>3)||(g.since != f.since)||(g.till != f.till)||(decide ((i:Int)>0)&&decide (g.key<=p.key))) ||
  (decide (g.since<0)||decide (g.since>g.till)||decide (g.till>20000000))
def gAt(l:List Sig)(apex:Bs)(i:Nat):Bool:=match l[i]?, l[0]?, l[i-1]? with|some g,some f,some p=> !uF i apex g f p|_,_,_=>false
def gB(l:List Sig)(apex:Bs):Bool:= !decide ((l.length:Int)>6)&&(List.range l.length).all (gAt l apex)
end NP
namespace Go.Proofs.YtjapjahfllomkaaGreatDoor
open NQ Go NP Go.RowKit
theorem Kc(t:Int)(ap:Bool):NQ.Fn cx 250 [.int .i64 t,.bool ap] (.d (.bool (fits t ap))) []:=by
 refine aB aP mixed Tryz.func250 (by kernel_rfl) rfl (ai rfl) ?_;conv=>whnf
 repeat' (first|(refine ae (λh=>?_) (λh=>?_) <;> (rw[h];conv=>whnf))|fail)
 all_goals refine af rfl ?_
 all_goals simp_all [D.cV,fits]
 all_goals (rw[Bool.eq_iff_iff];simp)
 all_goals (try omega)
theorem vu(z:az)(q:aQ)(hn:z.sets.length<=100000):NQ.Fn cx 84 [.agg (aM z),.agg (cL q)] (.d (.int .i64 (atI z.sets q))) []:=by
 refine aB aP mixed Tryz.func84 (by kernel_rfl) rfl (ai rfl) ?_;conv=>whnf
 refine⟨Nat,λk=>⟨[(2,.ptr 2 0),(3,.ptr 3 0),(5,.d (.int .i64 k))],[(2,.box ((aM z).map .d)),(3,.box ((cL q).map .d))]⟩,λk=>k<=z.sets.length/\(List.range k).all (pV z.sets q)=true,λk=>z.sets.length-k,⟨0,⟨by omega,rfl⟩,ag.keep ⟨ab,ab,ab,trivial⟩ ⟨ab,ab,trivial⟩⟩,λk ⟨hk,hall⟩=>?_⟩;(conv=>whnf);refine ae (λh1=>?_) (λh1=>?_) <;> (rw[h1];conv=>whnf)
 . have hlt:k<z.sets.length:=by simp at h1;omega
   obtain⟨s,hs⟩:∃s,z.sets[k]? =some s:=⟨_,ah hlt⟩
   have hat:pV z.sets q k= !is q s:=by simp only[pV,hs]
   repeat' (first
    |(refine⟨(by kernel_rfl:bc _ _=true),?_⟩;conv=>whnf)
    |(refine af rfl ?_;rw[NM hs (by simp only[is, *, if_true,if_false,aD]) hall];rfl)
    |(refine⟨k+1,⟨by omega,?_⟩,by(show z.sets.length-(k+1)<z.sets.length-k;omega),ag.keep ⟨ab,ab,⟨ak (by omega),rfl⟩,trivial⟩ ⟨ab,ab,trivial⟩⟩;rw[bX,hall,hat];((try simp only[aj]at *);simp only[is, *, if_true,if_false,aD];done))
    |(refine ae (λh=>?_) (λh=>?_) <;> (rw[h];conv=>whnf))
    |(refine⟨au k,an s,aA hs,?_⟩;conv=>whnf)
    |fail)
 . obtain rfl:k=z.sets.length:=(by simp at h1;omega)
   refine af rfl ?_;rw[K5 hall];rfl
theorem Pu(z:az):NQ.Fn cx 42 [.agg (aM z)] (.d (.bool (fh z))) []:=by
 refine aB aP mixed Tryz.func42 (by kernel_rfl) rfl (ai rfl) ?_;conv=>whnf
 refine⟨Nat,λk=>⟨[(1,.ptr 1 0),(3,.d (.int .i64 k))],[(1,.box ((aM z).map .d))]⟩,λk=>k<=z.sets.length/\k<=101/\(List.range k).all (qx z)=true,λk=>101-k,
  ⟨0,⟨by omega,by omega,rfl⟩,ag.keep ⟨ab,ab,trivial⟩ ⟨ab,trivial⟩⟩,λk ⟨hk,hk',hall⟩=>?_⟩
 conv=>whnf
 refine ae (λh1=>?_) (λh1=>?_) <;> (rw[h1];conv=>whnf)
 . have hlt:k<z.sets.length:=by simp at h1;omega
   refine ae (λh2=>?_) (λh2=>?_) <;> (rw[h2];conv=>whnf)
   . have hlt' :k<=100:=by simp at h2;omega
     obtain⟨s,hs⟩:∃s,z.sets[k]? =some s:=⟨_,ah hlt⟩
     have hat:qx z k= !(decide ((s.set.data.length:Int)>20)||decide ((s.sigs.length:Int)>20)):=by simp only[qx,hs]
     have hno:qx z k=false->fh z=false:=λhh=>by rw[fh,bN hlt hh,gT]
     repeat' (first
      |(refine⟨(by kernel_rfl:bc _ _=true),?_⟩;conv=>whnf)
      |(refine af rfl ?_;show AV.d (D.bool false)=_;(try simp only[aj]at *);rw[hno (by rw[hat];simp only[qx, *, if_true,if_false,aD])];done)
      |(refine⟨k+1,⟨by omega,by omega,?_⟩,by(show 101-(k+1)<101-k;omega),ag.keep ⟨ab,⟨ak (by omega),rfl⟩,trivial⟩ ⟨ab,trivial⟩⟩;rw[bX,hall,hat];((try simp only[aj]at *);simp only[qx, *, if_true,if_false,aD];done))
      |(refine ae (λh=>?_) (λh=>?_) <;> (rw[h];conv=>whnf))
      |(refine⟨au k,an s,aA hs,?_⟩;conv=>whnf)
      |fail)
   . refine af rfl ?_;show AV.d (D.bool (decide (((z.sets.map an).length:Int)<=100)))=_
     have:decide ((z.sets.length:Int)<=100)=false:=by simp at h2 ⊢;omega
     rw[aj,fh,this];rfl
 . refine af rfl ?_;obtain rfl:k=z.sets.length:=(by simp at h1;omega)
   show AV.d (D.bool (decide (((z.sets.map an).length:Int)<=100)))=_
   rw[aj,fh,hall,gU]
theorem PU(z:az)(hn:z.sets.length<=100000):NQ.Fn cx 188 [.agg (aM z)] (.d (.bool (iA (λt=>bR z.sets ⟨z.apex,t⟩) z))) []:=by
 refine aB aP mixed Tryz.func188 (by kernel_rfl) rfl (ai rfl) ?_;conv=>whnf
 (refine⟨_,_,vu z ⟨z.apex,4⟩ hn,?_⟩;conv=>whnf)
 rw[iX]
 (refine ae (λh=>?_) (λh=>?_) <;> (rw[h];conv=>whnf))
 . (refine af rfl ?_;show AV.d (D.bool false)=_;(try simp only[Bool.not_eq_true',Bool.not_eq_false',aj]at *);simp only[iA, *, if_true,if_false,aD];done)
 (refine⟨_,_,vu z ⟨z.apex,2⟩ hn,?_⟩;conv=>whnf)
 rw[iX]
 (refine ae (λh=>?_) (λh=>?_) <;> (rw[h];conv=>whnf))
 . (refine af rfl ?_;show AV.d (D.bool false)=_;(try simp only[Bool.not_eq_true',Bool.not_eq_false',aj]at *);simp only[iA, *, if_true,if_false,aD];done)
 have hyes:iA (λt=>bR z.sets ⟨z.apex,t⟩) z=(List.range z.sets.length).all (jr z):=by
  simp only[Bool.not_eq_false']at *; simp only[iA, *, if_true,if_false,aD]
 refine⟨Nat,λk=>⟨[(1,.ptr 1 0),(3,.d (.int .i64 k))],[(1,.box ((aM z).map .d))]⟩,λk=>k<=z.sets.length/\(List.range k).all (jr z)=true,λk=>z.sets.length-k,⟨0,⟨by omega,rfl⟩,ag.keep ⟨ab,ab,trivial⟩ ⟨ab,trivial⟩⟩,λk ⟨hk,hall⟩=>?_⟩;(conv=>whnf);refine ae (λh1=>?_) (λh1=>?_) <;> (rw[h1];conv=>whnf)
 . have hlt:k<z.sets.length:=by simp at h1;omega
   obtain⟨s,hs⟩:∃s,z.sets[k]? =some s:=⟨_,ah hlt⟩
   have hat:jr z k= !(!fits s.set.type (s.set.name==z.apex)):=by simp only[jr,hs,oL]
   have hno:jr z k=false->iA (λt=>bR z.sets ⟨z.apex,t⟩) z=false:=λhh=>by rw[hyes,bN hlt hh]
   repeat' (first
    |(refine⟨(by kernel_rfl:bc _ _=true),?_⟩;conv=>whnf)
    |(refine af rfl ?_;show AV.d (D.bool false)=_;(try simp only[aj]at *);rw[hno (by rw[hat];simp only[jr, *, if_true,if_false,aD])];done)
    |(refine⟨k+1,⟨by omega,?_⟩,by(show z.sets.length-(k+1)<z.sets.length-k;omega),ag.keep ⟨ab,⟨ak (by omega),rfl⟩,trivial⟩ ⟨ab,trivial⟩⟩;rw[bX,hall,hat];((try simp only[aj]at *);simp only[jr, *, if_true,if_false,aD];done))
    |(refine⟨_,_,Kc _ _,?_⟩;conv=>whnf)
    |(refine⟨au k,an s,aA hs,?_⟩;conv=>whnf)
    |(refine ae (λh=>?_) (λh=>?_) <;> (rw[h];conv=>whnf))
    |fail)
 . (refine af rfl ?_;obtain rfl:k=z.sets.length:=(by simp at h1;omega);show AV.d (D.bool true)=_;rw[hyes,hall])
end Go.Proofs.YtjapjahfllomkaaGreatDoor
namespace NP
open NQ Go
theorem P6(l:List Sig)(apex:Bs):gB l apex=gk l apex:=by
 have hat:∀i,gAt l apex i=nT l apex i:=by
  intro i;cases i with
  |zero =>
   simp only[gAt,nT,Nat.zero_sub];cases l[0]? with
   |none=>rfl
   |some g =>
    show(!uF 0 apex g g g)= !oF 0 apex g g g
    unfold uF oF;simp[Bool.or_assoc]
  |succ i =>
   simp only[gAt,nT];cases l[i+1]? with
   |none=>rfl
   |some g =>
    cases l[0]? with
    |none=>rfl
    |some f =>
     cases l[i+1-1]? with
     |none=>rfl
     |some p =>
      show(!uF (i+1) apex g f p)= !oF (i+1) apex g f p
      congr 1
      unfold uF oF;have:decide (((i+1:Nat):Int)>0)=true:=by simp
      rw[this];generalize (!(g.zone==apex))=a1;generalize decide (g.key<1)=a2;generalize decide (g.key>1000000)=a3;generalize decide (g.alg<1)=a4;generalize decide (g.alg>3)=a5;generalize (g.since != f.since)=a6;generalize (g.till != f.till)=a7;generalize decide (g.key<=p.key)=a8;generalize decide (g.since<0)=b1;generalize decide (g.since>g.till)=b2;generalize decide (g.till>20000000)=b3;cases a1 <;> cases a2 <;> cases a3 <;> cases a4 <;> cases a5 <;> simp;cases a6 <;> cases a7 <;> cases a8 <;> simp
 unfold gB gk;rw[show gAt l apex=nT l apex from funext hat]
theorem OH(z:az):xz z=ordered z:=by
 unfold xz ordered;by_cases hv:ao z.apex=true
 . congr 1
   by_cases hall:∀s∈z.sets,dL s.set=true
   . rw[Bool.eq_iff_iff,ax,ax];have heq:∀i,i<z.sets.length->rA z i=qF z i:=by
      intro i hi;obtain⟨s,hs⟩:∃s,z.sets[i]? =some s:=⟨_,ah hi⟩
      obtain⟨p,hp⟩:∃p,z.sets[i-1]? =some p:=⟨_,ah (by omega)⟩
      have vs:=jB (hall s (ar hs));have vp:=jB (hall p (ar hp));have hu:(bG s.set.name z.apex).1=aF s.set.name z.apex:=by unfold bG;rw[if_pos ⟨vs,hv⟩]
      rw[qc hs hp];simp only[rA,hs,hp];unfold qD lN;rw[hu,sy _ _ vp vs];have:decide ((i:Int)>0)= !((i:Int)==0):=by rw[Bool.eq_iff_iff];simp;omega
      rw[this]
     exact⟨λh i hi=>by rw[<- heq i (List.mem_range.1 hi)];exact h i hi,λh i hi=>by rw[heq i (List.mem_range.1 hi)];exact h i hi⟩
   . have⟨s,hm,hs⟩:∃s∈z.sets,dL s.set=false:=by
      simp only[Classical.not_forall]at hall;obtain⟨s,hm,hs⟩:=hall;exact⟨s,hm,by simpa using hs⟩
     obtain⟨i,hi⟩:=cE hm;obtain⟨hl,_⟩:=av.1 hi;obtain⟨p,hp⟩:∃p,z.sets[i-1]? =some p:=⟨_,ah (by omega)⟩
     rw[bN hl (by simp only[rA,hi,hp,qD,hs];rfl),bN hl (by rw[qc hi hp,lN,hs];rfl)]
 . simp[show ao z.apex=false by simpa using hv]
end NP
namespace Go.Proofs.YtjapjahfllomkaaGreatDoor
open NQ Go NP Go.RowKit
theorem LS(l:List Sig)(apex:Bs):NQ.Fn cx 253 [.slice 6 (l.map mQ),.str apex] (.d (.bool (gk l apex))) []:=by
 rw[<- P6];refine aB aP mixed Tryz.func253 (by kernel_rfl) rfl (ai rfl) ?_;conv=>whnf
 (refine ae (λh=>?_) (λh=>?_) <;> (rw[h];conv=>whnf))
 . (refine af rfl ?_;show AV.d (D.bool false)=_;(try simp only[aj]at *);simp only[gB, *, if_true,if_false,aD];done)
 have hl:l.length<=6:=by simp at h;omega
 have hyes:gB l apex=(List.range l.length).all (gAt l apex):=by
  simp only[aj]at *; simp only[gB, *, if_true,if_false,aD]
 refine⟨Nat,λk=>⟨[(0,.d (.slice 6 (l.map mQ))),(1,.d (.str apex)),(5,.d (.int .i64 k))],[]⟩,λk=>k<=l.length/\(List.range k).all (gAt l apex)=true,λk=>l.length-k,⟨0,⟨by omega,rfl⟩,ag.keep ⟨ab,ab,ab,trivial⟩ trivial⟩,λk ⟨hk,hall⟩=>?_⟩;(conv=>whnf);refine ae (λh1=>?_) (λh1=>?_) <;> (rw[h1];conv=>whnf)
 . have hlt:k<l.length:=by simp at h1;omega
   obtain⟨g,hg⟩:∃g,l[k]? =some g:=⟨_,ah hlt⟩
   obtain⟨f,hf⟩:∃f,l[0]? =some f:=⟨_,ah (by omega)⟩
   obtain⟨p,hp⟩:∃p,l[k-1]? =some p:=⟨_,ah (by omega)⟩
   have hat:gAt l apex k= !uF k apex g f p:=by simp only[gAt,hg,hf,hp]
   have hno:gAt l apex k=false->gB l apex=false:=λhh=>by rw[hyes,bN hlt hh]
   repeat' (first
    |(refine⟨(by kernel_rfl:bc _ _=true),?_⟩;conv=>whnf)
    |(refine af rfl ?_;show AV.d (D.bool false)=_;(try simp only[aj]at *);rw[hno (by rw[hat];simp only[uF, *, if_true,if_false,aD])];done)
    |(refine⟨k+1,⟨by omega,?_⟩,by(show l.length-(k+1)<l.length-k;omega),ag.keep ⟨ab,ab,⟨ak (by omega),rfl⟩,trivial⟩ trivial⟩;rw[bX,hall,hat];((try simp only[aj]at *);simp only[uF, *, if_true,if_false,aD];done))
    |(refine ae (λh=>?_) (λh=>?_) <;> (rw[h];conv=>whnf))
    |(refine⟨(ia (by assumption) (by omega)).1,mQ p,eC (by assumption) (by omega) hp,?_⟩;conv=>whnf)
    |(refine⟨by decide,mQ f,aA (k:=0) hf,?_⟩;conv=>whnf)
    |(refine⟨au k,mQ g,aA hg,?_⟩;conv=>whnf)
    |fail)
 . (refine af rfl ?_;obtain rfl:k=l.length:=(by simp at h1;omega);show AV.d (D.bool true)=_;rw[hyes,hall])
theorem PI(z:az):NQ.Fn cx 187 [.agg (aM z)] (.d (.bool (ordered z))) []:=by
 rw[<- OH];refine aB aP mixed Tryz.func187 (by kernel_rfl) rfl (ai rfl) ?_;conv=>whnf
 (refine⟨_,_,mg _,?_⟩;conv=>whnf)
 (refine ae (λh=>?_) (λh=>?_) <;> (rw[h];conv=>whnf))
 . (refine af rfl ?_;show AV.d (D.bool false)=_;(try simp only[aj]at *);simp only[xz, *, if_true,if_false,aD];done)
 have hva:ao z.apex=true:=by simpa using h
 (refine⟨_,_,B5 _ hva,?_⟩;conv=>whnf)
 repeat' (first|(refine ae (λh=>?_) (λh=>?_) <;> (rw[h];conv=>whnf))|(refine af rfl ?_;show AV.d (D.bool false)=_;(try simp only[aj]at *);simp only[xz, *, if_true,if_false,aD];done)|fail)
 have hn:z.sets.length<=20000:=by simp at *; omega
 have hyes:xz z=(List.range z.sets.length).all (rA z):=by
  simp only[aj]at *;simp only[xz, *, if_true,if_false,aD]
 refine⟨Nat,λk=>⟨[(1,.ptr 1 0),(3,.d (.int .i64 k))],[(1,.box ((aM z).map .d))]⟩,λk=>k<=z.sets.length/\(List.range k).all (rA z)=true,λk=>z.sets.length-k,⟨0,⟨by omega,rfl⟩,ag.keep ⟨ab,ab,trivial⟩ ⟨ab,trivial⟩⟩,λk ⟨hk,hall⟩=>?_⟩;(conv=>whnf);refine ae (λh1=>?_) (λh1=>?_) <;> (rw[h1];conv=>whnf)
 . have hlt:k<z.sets.length:=by simp at h1;omega
   obtain⟨s,hs⟩:∃s,z.sets[k]? =some s:=⟨_,ah hlt⟩
   obtain⟨p,hp⟩:∃p,z.sets[k-1]? =some p:=⟨_,ah (by omega)⟩
   have hat:rA z k= !qD z.apex k s p:=by simp only[rA,hs,hp]
   have hno:rA z k=false->xz z=false:=λhh=>by rw[hyes,bN hlt hh]
   have hvp:decide ((k:Int)>0)=true->ao p.set.name=true:=λh0=>by
    have:=ax.1 hall (k-1) (List.mem_range.2 (by simp at h0;omega));obtain⟨p',hp'⟩:∃p',z.sets[k-1-1]? =some p' :=⟨_,ah (by omega)⟩
    simp only[rA,hp,hp',qD,Bool.not_eq_true',Bool.or_eq_false_iff,Bool.not_eq_false']at this;exact jB this.1.1
   refine⟨au k,an s,aA hs,?_⟩
   conv=>whnf
   (refine⟨(by kernel_rfl:bc _ _=true),?_⟩;conv=>whnf)
   (refine⟨_,_,DS s.set,?_⟩;conv=>whnf)
   refine ae (λh9=>?_) (λh9=>?_) <;> (rw[h9];conv=>whnf)
   . repeat' (first|(refine af rfl ?_;show AV.d (D.bool false)=_;(try simp only[aj]at *);rw[hno (by rw[hat];simp only[qD, *, if_true,if_false,aD])];done)|fail)
   . have vs:ao s.set.name=true:=jB (by simpa using h9)
     repeat' (first
      |(refine af rfl ?_;show AV.d (D.bool false)=_;(try simp only[aj]at *);rw[hno (by rw[hat];simp only[qD, *, if_true,if_false,aD])];done)
      |(refine⟨k+1,⟨by omega,?_⟩,by(show z.sets.length-(k+1)<z.sets.length-k;omega),ag.keep ⟨ab,⟨ak (by omega),rfl⟩,trivial⟩ ⟨ab,trivial⟩⟩;rw[bX,hall,hat];((try simp only[aj]at *);simp only[qD, *, if_true,if_false,aD];done))
      |(refine⟨_,_,lH _ _ (bz vs) (bz hva),?_⟩;conv=>whnf)
      |(refine⟨_,_,Hz p.set s.set (hvp (by assumption)) vs,?_⟩;conv=>whnf)
      |(refine⟨(ia (by assumption) (by omega)).1,an p,eC (by assumption) (by omega) hp,?_⟩;conv=>whnf)
      |(refine ae (λh=>?_) (λh=>?_) <;> (rw[h];conv=>whnf))
      |fail)
 . (refine af rfl ?_;obtain rfl:k=z.sets.length:=(by simp at h1;omega);show AV.d (D.bool true)=_;rw[hyes,hall])
end Go.Proofs.YtjapjahfllomkaaGreatDoor
namespace NP
open NQ Go
def cB(apex:Bs):List Signed->List Bs
 |[]=>[]
 |s::t=>if dt apex s=true then s.set.name::cB apex t else cB apex t
theorem mB(apex:Bs):∀l,(cB apex l).length<=l.length
 |[]=>Nat.le_refl _
 |s::t=>by unfold cB;split <;> have:=mB apex t <;> simp <;> omega
theorem kj(apex:Bs):∀(l:List Signed) c,c∈cB apex l-> ∃s∈l,s.set.name=c
 |[],c,h=>by cases h
 |s::t,c,h=>by
  unfold cB at h;split at h
  . rcases List.mem_cons.1 h with rfl|h
    . exact⟨s,List.mem_cons_self .., rfl⟩
    . obtain⟨x,hx,e⟩:=kj apex t c h;exact⟨x,aK _ hx,e⟩
  . obtain⟨x,hx,e⟩:=kj apex t c h;exact⟨x,aK _ hx,e⟩
def qz(acc:List Bs)(c:Bs):Bool:=((acc.length:Int)==0)|| !aF c (nQ acc)
def ky:List Bs->List Bs->List Bs
 |acc,[]=>acc
 |acc,c::t=>ky (if qz acc c=true then acc++[c]else acc) t
def bK(z:az):List Bs:=ky [] (cB z.apex z.sets)
theorem drop_cons{α:Type}{l:List α}{k:Nat}{x:α}(h:l[k]? =some x):l.drop k=x::l.drop (k+1):=by
 obtain⟨hl,e⟩:=av.1 h;rw[List.drop_eq_getElem_cons hl,e]
theorem ml{acc:List Bs}(h:acc.length≠0):nQ acc∈acc:=by
 rw[nQ,ah (by omega)];exact List.getElem_mem _
end NP
namespace Go.Proofs.YtjapjahfllomkaaGreatDoor
open NQ Go NP Go.RowKit
theorem FF(z:az)(hn:z.sets.length<=100000):NQ.Fn cx 193 [.agg (aM z)] (.d (.slice 1 ((cB z.apex z.sets).map aJ))) []:=by
 refine aB aP mixed Tryz.func193 (by kernel_rfl) rfl (ai rfl) ?_;conv=>whnf
 refine⟨Nat×List Bs,λx=>⟨[(1,.ptr 1 0),(3,.own 100),(4,.d (.int .i64 x.1))],[(1,.box ((aM z).map .d)),(100,.row 9 1 (x.2.map aJ))]⟩,
  λx=>x.1<=z.sets.length/\x.2.length<=x.1/\x.2++cB z.apex (z.sets.drop x.1)=cB z.apex z.sets,λx=>z.sets.length-x.1,
  ⟨(0,[]),⟨by simp,by simp,rfl⟩,(ag.jX 3 100 1 9 1 rfl rfl (by decide)).trans (ag.keep ⟨ab,ab,ab,trivial⟩ ⟨ab,ab,trivial⟩)⟩,?_⟩
 rintro⟨k,acc⟩ ⟨hk,hl,hc⟩;simp only at hk hl hc
 conv=>whnf
 refine ae (λh1=>?_) (λh1=>?_) <;> (rw[h1];conv=>whnf)
 . have hlt:k<z.sets.length:=by simp at h1;omega
   obtain⟨s,hs⟩:∃s,z.sets[k]? =some s:=⟨_,ah hlt⟩
   rw[drop_cons hs,cB]at hc
   repeat' (first
    |(refine⟨(by kernel_rfl:bc _ _=true),?_⟩;conv=>whnf)
    |(refine⟨(k+1,acc),⟨hlt,by(show acc.length<=k+1;omega),(by simp only[dt, *, if_true,if_false,aD]at hc;exact hc)⟩,by(show z.sets.length-(k+1)<z.sets.length-k;omega),ag.keep ⟨ab,ab,⟨ak (by omega),rfl⟩,trivial⟩ ⟨ab,ab,trivial⟩⟩;done)
    |(refine⟨(k+1,acc++[s.set.name]),⟨hlt,by(simp;omega),(by simp only[dt, *, if_true,if_false,aD]at hc;rw[<- hc];simp)⟩,by(show z.sets.length-(k+1)<z.sets.length-k;omega),ag.keep ⟨ab,ab,⟨ak (by omega),rfl⟩,trivial⟩ ⟨ab,⟨by(show some (Blk.row _ _ (_++_))=some (Blk.row _ _ _);rw[List.map_append];rfl),rfl⟩,trivial⟩⟩;done)
    |(refine ae (λh=>?_) (λh=>?_) <;> (rw[h];conv=>whnf))
    |(refine⟨au k,an s,aA hs,?_⟩;conv=>whnf)
    |(refine⟨by(show(acc.map aJ).length+1<=_;rw[aj];omega),by(show((acc.map aJ).length+1)*16<=_;rw[aj];omega),?_⟩;conv=>whnf)
    |fail)
 . obtain rfl:k=z.sets.length:=by simp at h1;omega
   refine af rfl ?_;rw[List.drop_length,cB,List.append_nil]at hc;rw[<- hc];rfl
theorem G6(z:az)(hn:z.sets.length<=100000)(hv:∀s∈z.sets,ao s.set.name=true):NQ.Fn cx 295 [.agg (aM z)] (.d (.slice 1 ((bK z).map aJ))) []:=by
 refine aB aP mixed Tryz.func295 (by kernel_rfl) rfl (ai rfl) ?_;conv=>whnf
 (refine⟨_,_,FF z hn,?_⟩;conv=>whnf)
 obtain⟨l,hl0⟩:∃l,l=cB z.apex z.sets:=⟨_,rfl⟩
 have hln:l.length<=100000:=by rw[hl0];exact Nat.le_trans (mB _ _) hn
 have hlv:∀c∈l,c.length<=60:=λc hc=>by
  rw[hl0]at hc;obtain⟨s,hs,e⟩:=kj _ _ _ hc;rw[<- e];exact bz (hv s hs)
 rw[bK, <- hl0];clear hl0;refine⟨Nat×List Bs,λx=>⟨[(3,.d (.slice 1 (l.map aJ))),(4,.own 100),(5,.d (.int .i64 x.1))],[(100,.row 9 1 (x.2.map aJ))]⟩,
  λx=>x.1<=l.length/\x.2.length<=x.1/\(∀c∈x.2,c∈l)/\ky x.2 (l.drop x.1)=ky [] l,λx=>l.length-x.1,
  ⟨(0,[]),⟨by simp,by simp,by simp,rfl⟩,(ag.jX 4 100 1 9 1 rfl rfl (by decide)).trans (ag.keep ⟨ab,ab,ab,trivial⟩ ⟨ab,trivial⟩)⟩,?_⟩
 rintro⟨k,acc⟩ ⟨hk,hl,hm,hc⟩;simp only at hk hl hm hc
 conv=>whnf
 refine ae (λh1=>?_) (λh1=>?_) <;> (rw[h1];conv=>whnf)
 . have hlt:k<l.length:=by simp at h1;omega
   obtain⟨s,hs⟩:∃s,l[k]? =some s:=⟨_,ah hlt⟩
   have hms:=ar hs;rw[drop_cons hs,ky]at hc
   repeat' (first
    |(refine⟨(by kernel_rfl:bc _ _=true),?_⟩;conv=>whnf)
    |(refine⟨(k+1,acc),⟨hlt,by(show acc.length<=k+1;omega),hm,(by(try simp only[aj]at *);simp only[qz, *, if_true,if_false,aD]at hc;exact hc)⟩,by(show l.length-(k+1)<l.length-k;omega),ag.keep ⟨ab,ab,⟨ak (by omega),rfl⟩,trivial⟩ ⟨ab,trivial⟩⟩;done)
    |(refine⟨(k+1,acc++[s]),⟨hlt,by(simp;omega),(by intro c hc';rcases List.mem_append.1 hc' with q|q;exact hm c q;simp at q;rw[q];exact hms),(by(try simp only[aj]at *);simp only[qz, *, if_true,if_false,aD]at hc;exact hc)⟩,by(show l.length-(k+1)<l.length-k;omega),ag.keep ⟨ab,ab,⟨ak (by omega),rfl⟩,trivial⟩ ⟨⟨by(show some (Blk.row _ _ (_++_))=some (Blk.row _ _ _);rw[List.map_append];rfl),rfl⟩,trivial⟩⟩;done)
    |(refine⟨_,_,lH _ _ (hlv s hms) (hlv _ (hm _ (ml (vD (by assumption))))),?_⟩;conv=>whnf)
    |(refine ae (λh=>?_) (λh=>?_) <;> (rw[h];conv=>whnf))
    |(refine⟨au k,aJ s,aA hs,?_⟩;conv=>whnf)
    |(rw[JU (acc:=acc) (by omega) (by assumption)];refine⟨au _,Ol (acc:=acc) (by assumption),?_⟩;conv=>whnf)
    |(refine⟨_,L9 (acc:=acc) (by assumption),?_⟩;conv=>whnf)
    |(refine⟨by(show(acc.map aJ).length+1<=_;rw[aj];omega),by(show((acc.map aJ).length+1)*16<=_;rw[aj];omega),?_⟩;conv=>whnf)
    |fail)
 . obtain rfl:k=l.length:=by simp at h1;omega
   refine af rfl ?_;rw[List.drop_length,ky]at hc;rw[<- hc];rfl
end Go.Proofs.YtjapjahfllomkaaGreatDoor
namespace NP
open NQ Go
def jl(cs:List Bs)(n:Bs)(k:Nat):Nat:=k+((cs.drop k).takeWhile λc=>decide (aH c n<=0)).length
theorem Gj{cs:List Bs}{n c:Bs}{k:Nat}(h:cs[k]? =some c)(hc:decide (aH c n<=0)=true):jl cs n (k+1)=jl cs n k:=by
 unfold jl;rw[drop_cons h,List.takeWhile_cons,if_pos hc,List.length_cons];omega
theorem Gk{cs:List Bs}{n c:Bs}{k:Nat}(h:cs[k]? =some c)(hc:decide (aH c n<=0)=false):jl cs n k=k:=by
 unfold jl;rw[drop_cons h,List.takeWhile_cons,hc];rfl
theorem IP{cs:List Bs}{n:Bs}{k:Nat}(h:cs.length<=k):jl cs n k=k:=by
 unfold jl;rw[List.drop_eq_nil_of_le h];rfl
def ll(cs:List Bs)(j:Nat):Bs:=(cs[j-1]?).getD []
def qY(cs:List Bs)(j:Nat)(n:Bs):Bs:=if (decide ((j:Int)>0)&&aF n (ll cs j))=true then ll cs j else[]
def bGo(cs:List Bs):Nat->List Signed->List Bs
 |_,[]=>[]
 |k,s::t=>qY cs (jl cs s.set.name k) s.set.name::bGo cs (jl cs s.set.name k) t
def eu(z:az):List Bs:=bGo (bK z) 0 z.sets
theorem xn:∀(l acc:List Bs) c,c∈ky acc l->c∈acc\/c∈l
 |[],acc,c,h=> .inl h
 |x::t,acc,c,h=>by
  rw[ky]at h;rcases xn t _ c h with q|q
  . split at q
    . rcases List.mem_append.1 q with q|q
      . exact .inl q
      . simp at q;subst q;exact .inr (List.mem_cons_self ..)
    . exact .inl q
  . exact .inr (aK _ q)
theorem wi:∀(l acc:List Bs),(ky acc l).length<=acc.length+l.length
 |[],acc=>by simp[ky]
 |x::t,acc=>by
  rw[ky];have:=wi t (if qz acc x=true then acc++[x]else acc);split at this <;> rename_i hh
  . rw[if_pos hh];simp at this ⊢;omega
  . rw[if_neg hh];simp at this ⊢;omega
theorem xC{cs:List Bs}{j:Nat}(hj:j<=cs.length)(h0:decide ((j:Int)>0)=true):cs[j-1]? =some (ll cs j):=by
 have:0<j:=by simpa using h0
 rw[ll,ah (by omega)];rfl
end NP
namespace Go.Proofs.YtjapjahfllomkaaGreatDoor
open NQ Go NP Go.RowKit
theorem Al(z:az)(hn:z.sets.length<=100000)(hv:∀s∈z.sets,ao s.set.name=true):NQ.Fn cx 251 [.agg (aM z)] (.d (.slice 1 ((eu z).map aJ))) []:=by
 refine aB aP mixed Tryz.func251 (by kernel_rfl) rfl (ai rfl) ?_;conv=>whnf
 (refine⟨_,_,G6 z hn hv,?_⟩;conv=>whnf)
 obtain⟨l,hl0⟩:∃l,l=bK z:=⟨_,rfl⟩
 have hln:l.length<=100000:=by
  rw[hl0,bK];have:=wi (cB z.apex z.sets) [];have:=mB z.apex z.sets;simp at *; omega
 have hlv:∀c∈l,c.length<=60:=λc hc=>by
  rw[hl0]at hc;rcases xn _ _ _ hc with q|q
  . cases q
  . obtain⟨s,hs,e⟩:=kj _ _ _ q;rw[<- e];exact bz (hv s hs)
 rw[eu, <- hl0];clear hl0;refine⟨by omega,.inl rfl,by omega,by(simp only[aj];omega),by(simp only[aj];omega),?_⟩
 conv=>whnf
 refine ⟨Nat × Nat × List Bs, fun x => ⟨[(1, .ptr 1 0), (3, .d (.slice 1 (l.map aJ))), (4, .own 13), (5, .d (.int .i64 x.2.1)), (6, .d (.int .i64 x.1))],
     [(1,.box ((aM z).map .d)),(13,.row 9 1 ((x.2.2++List.replicate (z.sets.length-x.1) []).map aJ) true)]⟩,
  λx=>x.1<=z.sets.length/\x.2.1<=l.length/\x.2.2.length=x.1/\x.2.2++bGo l x.2.1 (z.sets.drop x.1)=bGo l 0 z.sets,λx=>z.sets.length-x.1,
  ⟨(0,0,[]),⟨by simp,by simp,rfl,rfl⟩,ag.keep ⟨ab,ab,ab,ab,ab,trivial⟩ ⟨ab,⟨by(show some (Blk.row _ _ (List.replicate ((z.sets.map an).length:Int).toNat _) true)=some (Blk.row _ _ _ true);simp[aJ];done),rfl⟩,trivial⟩⟩,?_⟩
 rintro⟨k,j0,done⟩ ⟨hk,hj0,hd,hc⟩;simp only at hk hj0 hd hc
 conv=>whnf
 refine ae (λh1=>?_) (λh1=>?_) <;> (rw[h1];conv=>whnf)
 . have hlt:k<z.sets.length:=by simp at h1;omega
   obtain⟨s,hs⟩:∃s,z.sets[k]? =some s:=⟨_,ah hlt⟩
   have hsl:s.set.name.length<=60:=bz (hv s (ar hs));rw[drop_cons hs,bGo]at hc;refine⟨au k,an s,aA hs,?_⟩
   conv=>whnf
   refine ⟨Nat, fun j => ⟨[(1, .ptr 1 0), (3, .d (.slice 1 (l.map aJ))), (4, .own 13), (5, .d (.int .i64 j)), (6, .d (.int .i64 k)), (7, .d (.str s.set.name))],
       [(1,.box ((aM z).map .d)),(13,.row 9 1 ((done++List.replicate (z.sets.length-k) []).map aJ) true)]⟩,
    λj=>j<=l.length/\jl l s.set.name j=jl l s.set.name j0,λj=>l.length-j,⟨j0,⟨hj0,rfl⟩,ag.keep ⟨ab,ab,ab,ab,ab,ab,trivial⟩ ⟨ab,ab,trivial⟩⟩,?_⟩
   rintro j ⟨hj,hadv⟩
   conv=>whnf
   have hrow:k<((done++List.replicate (z.sets.length-k) []).map aJ).length:=by simp;omega
   have hrep:List.replicate (z.sets.length-k) ([]:Bs)=List.replicate ((z.sets.length-(k+1))+1) []:=by congr 1;omega
   have hset:∀c',((done++List.replicate (z.sets.length-k) []).map aJ).set k (aJ c')=((done++[c'])++List.replicate (z.sets.length-(k+1)) []).map aJ:=λc' =>by
    rw[hrep, <- F6 done _ c',List.map_set,hd]
   have hsame:(done++List.replicate (z.sets.length-k) []).map aJ=((done++[[]])++List.replicate (z.sets.length-(k+1)) []).map aJ:=by
    rw[hrep,List.replicate_succ];simp
   have hrk:((done++List.replicate (z.sets.length-k) []).map aJ)[k]? =some (aJ []):=by
    rw[aL,b9 (by omega),List.getElem?_replicate,if_pos (by omega)];rfl
   have hgo:∀c',jl l s.set.name j=j->qY l j s.set.name=c' ->(done++[c'])++bGo l j (z.sets.drop (k+1))=bGo l 0 z.sets:=λc' e e' =>by
    rw[<- hc, <- hadv,e,e',List.append_assoc];rfl
   have hpl:decide ((j:Int)>0)=true->(ll l j).length<=60:=λh0=>hlv _ (ar (xC hj h0))
   refine ae (λh2=>?_) (λh2=>?_) <;> (rw[h2];conv=>whnf)
   . have hjl:j<l.length:=by simp at h2;omega
     obtain⟨c,hcj⟩:∃c,l[j]? =some c:=⟨_,ah hjl⟩
     refine⟨au j,aJ c,aA hcj,?_⟩
     conv=>whnf
     (refine⟨_,_,qn c s.set.name (hlv c (ar hcj)) hsl,?_⟩;conv=>whnf)
     refine ae (λh3=>?_) (λh3=>?_) <;> (rw[h3];conv=>whnf)
     . exact⟨j+1,⟨hjl,by rw[Gj hcj h3,hadv]⟩,by(show l.length-(j+1)<l.length-j;omega),ag.keep ⟨ab,ab,ab,⟨ak (by omega),rfl⟩,ab,ab,trivial⟩ ⟨ab,ab,trivial⟩⟩
     . have hst:=Gk hcj h3
       repeat' (first
        |(refine⟨(k+1,j,done++[ll l j]),⟨hlt,hj,by simp[hd],hgo _ hst (by simp only[qY, *, if_true,if_false,aD];done)⟩,by(show z.sets.length-(k+1)<z.sets.length-k;omega),ag.keep ⟨ab,ab,ab,ab,⟨ak (by omega),rfl⟩,trivial⟩ ⟨ab,⟨by(show some (Blk.row _ _ (List.set _ k (aJ (ll l j))) true)=some (Blk.row _ _ _ true);rw[hset]),rfl⟩,trivial⟩⟩;done)
        |(refine⟨(k+1,j,done++[[]]),⟨hlt,hj,by simp[hd],hgo _ hst (by simp only[qY, *, if_true,if_false,aD];done)⟩,by(show z.sets.length-(k+1)<z.sets.length-k;omega),ag.keep ⟨ab,ab,ab,ab,⟨ak (by omega),rfl⟩,trivial⟩ ⟨ab,⟨by(show some (Blk.row _ _ ((done++List.replicate (z.sets.length-k) []).map aJ) true)=some (Blk.row _ _ _ true);rw[hsame]),rfl⟩,trivial⟩⟩;done)
        |(refine⟨_,_,lH _ _ hsl (hpl (by assumption)),?_⟩;conv=>whnf)
        |(refine⟨(ia (k:=j) (by assumption) (by omega)).1,aJ (ll l j),eC (k:=j) (by assumption) (by omega) (xC hj (by assumption)),?_⟩;conv=>whnf)
        |(refine⟨au k,hrow,?_⟩;conv=>whnf)
        |(refine⟨_,hrk,?_⟩;conv=>whnf)
        |(refine⟨(by kernel_rfl:bc _ _=true),?_⟩;conv=>whnf)
        |(refine ae (λh=>?_) (λh=>?_) <;> (rw[h];conv=>whnf))
        |fail)
   . have hst:jl l s.set.name j=j:=IP (by simp at h2;omega)
     repeat' (first
         |(refine⟨(k+1,j,done++[ll l j]),⟨hlt,hj,by simp[hd],hgo _ hst (by simp only[qY, *, if_true,if_false,aD];done)⟩,by(show z.sets.length-(k+1)<z.sets.length-k;omega),ag.keep ⟨ab,ab,ab,ab,⟨ak (by omega),rfl⟩,trivial⟩ ⟨ab,⟨by(show some (Blk.row _ _ (List.set _ k (aJ (ll l j))) true)=some (Blk.row _ _ _ true);rw[hset]),rfl⟩,trivial⟩⟩;done)
         |(refine⟨(k+1,j,done++[[]]),⟨hlt,hj,by simp[hd],hgo _ hst (by simp only[qY, *, if_true,if_false,aD];done)⟩,by(show z.sets.length-(k+1)<z.sets.length-k;omega),ag.keep ⟨ab,ab,ab,ab,⟨ak (by omega),rfl⟩,trivial⟩ ⟨ab,⟨by(show some (Blk.row _ _ ((done++List.replicate (z.sets.length-k) []).map aJ) true)=some (Blk.row _ _ _ true);rw[hsame]),rfl⟩,trivial⟩⟩;done)
         |(refine⟨_,_,lH _ _ hsl (hpl (by assumption)),?_⟩;conv=>whnf)
         |(refine⟨(ia (k:=j) (by assumption) (by omega)).1,aJ (ll l j),eC (k:=j) (by assumption) (by omega) (xC hj (by assumption)),?_⟩;conv=>whnf)
         |(refine⟨au k,hrow,?_⟩;conv=>whnf)
         |(refine⟨_,hrk,?_⟩;conv=>whnf)
         |(refine⟨(by kernel_rfl:bc _ _=true),?_⟩;conv=>whnf)
         |(refine ae (λh=>?_) (λh=>?_) <;> (rw[h];conv=>whnf))
         |fail)
 . obtain rfl:k=z.sets.length:=by simp at h1;omega
   refine af rfl ?_;simp only[List.drop_length,bGo,List.append_nil]at hc;show AV.d (.slice 1 ((done++List.replicate (z.sets.length-z.sets.length) []).map aJ))=_
   rw[Nat.sub_self,List.replicate_zero,List.append_nil,hc]
end Go.Proofs.YtjapjahfllomkaaGreatDoor
namespace NP
open NQ Go
theorem oX(cs:List Bs):∀(l:List Signed) (k:Nat),(bGo cs k l).length=l.length
 |[],_=>rfl
 |s::t,k=>by simp[bGo,oX cs t]
def rB(t:Int)(b:Bs):Bool:=(b==[])||((t != 2)&&(t != 1))
def rC(z:az):List Bool:=(z.sets.zip (eu z)).map λp=>rB p.1.set.type p.2
def jn(b:Bool):List D:=[.bool b]
theorem MF(done:List Bool)(n:Nat)(c:Bool):(done++List.replicate (n+1) false).set done.length c=(done++[c])++List.replicate n false:=by
 rw[List.replicate_succ,List.set_append];simp
def pC(s:Signed)(b:Bs):Bool :=
 ((!(b==[])&&(s.set.type != 1))&& !(!(b==[])&&(s.set.name==b))) ||
 ((!(b==[])&&(s.set.name==b))&&(s.set.type != 1)&&(s.set.type != 2)&&(s.set.type != 6)&&(s.set.type != 8)) ||
 ((s.set.type==6)&& !(!(b==[])&&(s.set.name==b)))
def oo(z:az)(i:Nat):Bool:=match z.sets[i]?, (eu z)[i]? with|some s,some b=> !pC s b|_,_=>false
def vC(z:az):Bool:=(List.range z.sets.length).all (oo z)
def pB(apex:Bs)(s:Signed)(o:Bool):Bool:= !gk s.sigs apex||(!o&&decide ((s.sigs.length:Int)>0))
def om(z:az)(i:Nat):Bool:=match z.sets[i]?, (rC z)[i]? with|some s,some o=> !pB z.apex s o|_,_=>false
def vB(z:az):Bool:=(List.range z.sets.length).all (om z)
theorem mw{b:Bool}(h:b=true)(h' :b=false):False:=by rw[h]at h';cases h'
end NP
namespace Go.Proofs.YtjapjahfllomkaaGreatDoor
open NQ Go NP Go.RowKit
theorem PL(z:az)(hn:z.sets.length<=100000)(hv:∀s∈z.sets,ao s.set.name=true):NQ.Fn cx 252 [.agg (aM z)] (.d (.slice 1 ((rC z).map jn))) []:=by
 refine aB aP mixed Tryz.func252 (by kernel_rfl) rfl (ai rfl) ?_;conv=>whnf
 (refine⟨_,_,Al z hn hv,?_⟩;conv=>whnf)
 have hb:(eu z).length=z.sets.length:=oX _ _ _;refine⟨by omega,.inl rfl,by omega,by(simp only[aj];omega),by(simp only[aj];omega),?_⟩
 conv=>whnf
 refine ⟨Nat × List Bool, fun x => ⟨[(1, .ptr 1 0), (3, .d (.slice 1 ((eu z).map aJ))), (4, .own 12), (5, .d (.int .i64 x.1))],
     [(1,.box ((aM z).map .d)),(12,.row 4 1 ((x.2++List.replicate (z.sets.length-x.1) false).map jn) true)]⟩,
  λx=>x.1<=z.sets.length/\x.2.length=x.1/\x.2++((z.sets.zip (eu z)).drop x.1).map (λp=>rB p.1.set.type p.2)=rC z,λx=>z.sets.length-x.1,
  ⟨(0,[]),⟨by simp,rfl,rfl⟩,ag.keep ⟨ab,ab,ab,ab,trivial⟩ ⟨ab,⟨by(show some (Blk.row _ _ (List.replicate ((z.sets.map an).length:Int).toNat _) true)=some (Blk.row _ _ _ true);simp[jn];done),rfl⟩,trivial⟩⟩,?_⟩
 rintro⟨k,done⟩ ⟨hk,hd,hc⟩;simp only at hk hd hc
 conv=>whnf
 refine ae (λh1=>?_) (λh1=>?_) <;> (rw[h1];conv=>whnf)
 . have hlt:k<z.sets.length:=by simp at h1;omega
   obtain⟨s,hs⟩:∃s,z.sets[k]? =some s:=⟨_,ah hlt⟩
   obtain⟨b,hb'⟩:∃b,(eu z)[k]? =some b:=⟨_,ah (by omega)⟩
   have hzk:(z.sets.zip (eu z))[k]? =some (s,b):=by rw[List.getElem?_zip_eq_some];exact⟨hs,hb'⟩
   rw[drop_cons hzk,List.map_cons]at hc;have hrow:k<((done++List.replicate (z.sets.length-k) false).map jn).length:=by simp;omega
   have hrep:List.replicate (z.sets.length-k) false=List.replicate ((z.sets.length-(k+1))+1) false:=by congr 1;omega
   have hset:∀c',((done++List.replicate (z.sets.length-k) false).map jn).set k (jn c')=((done++[c'])++List.replicate (z.sets.length-(k+1)) false).map jn:=λc' =>by
    rw[hrep, <- MF done _ c',List.map_set,hd]
   have hrk:((done++List.replicate (z.sets.length-k) false).map jn)[k]? =some (jn false):=by
    rw[aL,b9 (by omega),List.getElem?_replicate,if_pos (by omega)];rfl
   have hgo:∀c',rB s.set.type b=c' ->(done++[c'])++((z.sets.zip (eu z)).drop (k+1)).map (λp=>rB p.1.set.type p.2)=rC z:=λc' e=>by
    rw[<- hc, <- e,List.append_assoc];rfl
   have e0:(⟨#[]⟩:ByteArray).data.toList=[]:=rfl
   repeat' (first
    |(refine⟨(k+1,done++[true]),⟨hlt,by simp[hd],hgo _ (by(try simp only[e0]at *);simp only[rB, *, if_true,if_false,aD];done)⟩,by(show z.sets.length-(k+1)<z.sets.length-k;omega),ag.keep ⟨ab,ab,ab,⟨ak (by omega),rfl⟩,trivial⟩ ⟨ab,⟨by(show some (Blk.row _ _ (List.set _ k (jn true)) true)=some (Blk.row _ _ _ true);rw[hset]),rfl⟩,trivial⟩⟩;done)
    |(refine⟨(k+1,done++[false]),⟨hlt,by simp[hd],hgo _ (by(try simp only[e0]at *);simp only[rB, *, if_true,if_false,aD];done)⟩,by(show z.sets.length-(k+1)<z.sets.length-k;omega),ag.keep ⟨ab,ab,ab,⟨ak (by omega),rfl⟩,trivial⟩ ⟨ab,⟨by(show some (Blk.row _ _ (List.set _ k (jn false)) true)=some (Blk.row _ _ _ true);rw[hset]),rfl⟩,trivial⟩⟩;done)
    |(refine⟨(k+1,done++[s.set.type != 1]),⟨hlt,by simp[hd],hgo _ (by(try simp only[e0]at *);simp only[rB, *, if_true,if_false,aD];done)⟩,by(show z.sets.length-(k+1)<z.sets.length-k;omega),ag.keep ⟨ab,ab,ab,⟨ak (by omega),rfl⟩,trivial⟩ ⟨ab,⟨by(show some (Blk.row _ _ (List.set _ k (jn (s.set.type != 1))) true)=some (Blk.row _ _ _ true);rw[hset]),rfl⟩,trivial⟩⟩;done)
    |(refine⟨(by kernel_rfl:bc _ _=true),?_⟩;conv=>whnf)
    |(refine ae (λh=>?_) (λh=>?_) <;> (rw[h];conv=>whnf))
    |(refine⟨au k,an s,aA hs,?_⟩;conv=>whnf)
    |(refine⟨au k,aJ b,aA hb',?_⟩;conv=>whnf)
    |(refine⟨au k,hrow,?_⟩;conv=>whnf)
    |(refine⟨_,hrk,?_⟩;conv=>whnf)
    |fail)
 . obtain rfl:k=z.sets.length:=by simp at h1;omega
   refine af rfl ?_;rw[List.drop_eq_nil_of_le (by simp;omega),List.map_nil,List.append_nil]at hc;show AV.d (.slice 1 ((done++List.replicate (z.sets.length-z.sets.length) false).map jn))=_
   rw[Nat.sub_self,List.replicate_zero,List.append_nil,hc]
theorem N7(z:az)(hn:z.sets.length<=100000)(hv:∀s∈z.sets,ao s.set.name=true):NQ.Fn cx 190 [.agg (aM z)] (.d (.bool (vC z))) []:=by
 refine aB aP mixed Tryz.func190 (by kernel_rfl) rfl (ai rfl) ?_;conv=>whnf
 (refine⟨_,_,Al z hn hv,?_⟩;conv=>whnf)
 have hb:(eu z).length=z.sets.length:=oX _ _ _;have hyes:vC z=(List.range z.sets.length).all (oo z):=rfl;refine⟨Nat,λk=>⟨[(1,.ptr 1 0),(3,.d (.slice 1 ((eu z).map aJ))),(4,.d (.int .i64 k))],[(1,.box ((aM z).map .d))]⟩,λk=>k<=z.sets.length/\(List.range k).all (oo z)=true,λk=>z.sets.length-k,⟨0,⟨by omega,rfl⟩,ag.keep ⟨ab,ab,ab,trivial⟩ ⟨ab,trivial⟩⟩,λk ⟨hk,hall⟩=>?_⟩;(conv=>whnf);refine ae (λh1=>?_) (λh1=>?_) <;> (rw[h1];conv=>whnf)
 . have hlt:k<z.sets.length:=by simp at h1;omega
   obtain⟨s,hs⟩:∃s,z.sets[k]? =some s:=⟨_,ah hlt⟩
   obtain⟨b,hb'⟩:∃b,(eu z)[k]? =some b:=⟨_,ah (by omega)⟩
   have hat:oo z k= !pC s b:=by simp only[oo,hs,hb']
   have hno:oo z k=false->vC z=false:=λhh=>by rw[hyes,bN hlt hh]
   clear hb;refine⟨au k,an s,aA hs,?_⟩
   conv=>whnf
   repeat' (first
    |exact(mw (b:=s.set.type != 1) (by assumption) (by assumption)).elim
    |exact(mw (b:= !(b==[])) (by assumption) (by assumption)).elim
    |exact(mw (b:=s.set.name==b) (by assumption) (by assumption)).elim
    |exact(AQ (b:=s.set.name==b) (by assumption) (by assumption)).elim
    |exact(mw (b:= !(s.set.name==b)) (by assumption) (by assumption)).elim
    |(refine⟨(by kernel_rfl:bc _ _=true),?_⟩;conv=>whnf)
    |(refine af rfl ?_;show AV.d (D.bool false)=_;(try simp only[aj]at *);rw[hno (by rw[hat];simp only[pC, *, if_true,if_false,aD])];done)
    |(refine⟨k+1,⟨by omega,?_⟩,by(show z.sets.length-(k+1)<z.sets.length-k;omega),ag.keep ⟨ab,ab,⟨ak (by omega),rfl⟩,trivial⟩ ⟨ab,trivial⟩⟩;rw[bX,hall,hat];((try simp only[aj]at *);simp only[pC, *, if_true,if_false,aD];done))
    |(refine ae (λh=>?_) (λh=>?_) <;> (rw[h];conv=>whnf))
    |(refine⟨au k,aJ b,aA hb',?_⟩;conv=>whnf)
    |fail)
 . (refine af rfl ?_;obtain rfl:k=z.sets.length:=(by simp at h1;omega);show AV.d (D.bool true)=_;rw[hyes,hall])
theorem N2(z:az)(hn:z.sets.length<=100000)(hv:∀s∈z.sets,ao s.set.name=true):NQ.Fn cx 191 [.agg (aM z)] (.d (.bool (vB z))) []:=by
 refine aB aP mixed Tryz.func191 (by kernel_rfl) rfl (ai rfl) ?_;conv=>whnf
 (refine⟨_,_,PL z hn hv,?_⟩;conv=>whnf)
 have hb:(rC z).length=z.sets.length:=by have:=oX (bK z) z.sets 0;unfold rC eu;simp;omega
 have hyes:vB z=(List.range z.sets.length).all (om z):=rfl;refine⟨Nat,λk=>⟨[(1,.ptr 1 0),(3,.d (.slice 1 ((rC z).map jn))),(4,.d (.int .i64 k))],[(1,.box ((aM z).map .d))]⟩,λk=>k<=z.sets.length/\(List.range k).all (om z)=true,λk=>z.sets.length-k,⟨0,⟨by omega,rfl⟩,ag.keep ⟨ab,ab,ab,trivial⟩ ⟨ab,trivial⟩⟩,λk ⟨hk,hall⟩=>?_⟩;(conv=>whnf);refine ae (λh1=>?_) (λh1=>?_) <;> (rw[h1];conv=>whnf)
 . have hlt:k<z.sets.length:=by simp at h1;omega
   obtain⟨s,hs⟩:∃s,z.sets[k]? =some s:=⟨_,ah hlt⟩
   obtain⟨o,ho⟩:∃o,(rC z)[k]? =some o:=⟨_,ah (by omega)⟩
   have hat:om z k= !pB z.apex s o:=by simp only[om,hs,ho]
   have hno:om z k=false->vB z=false:=λhh=>by rw[hyes,bN hlt hh]
   clear hb
   repeat' (first
    |(refine⟨(by kernel_rfl:bc _ _=true),?_⟩;conv=>whnf)
    |(refine af rfl ?_;show AV.d (D.bool false)=_;(try simp only[aj]at *);rw[hno (by rw[hat];simp only[pB, *, if_true,if_false,aD])];done)
    |(refine⟨k+1,⟨by omega,?_⟩,by(show z.sets.length-(k+1)<z.sets.length-k;omega),ag.keep ⟨ab,ab,⟨ak (by omega),rfl⟩,trivial⟩ ⟨ab,trivial⟩⟩;rw[bX,hall,hat];((try simp only[aj]at *);simp only[pB, *, if_true,if_false,aD];done))
    |(refine⟨_,_,LS _ _,?_⟩;conv=>whnf)
    |(refine ae (λh=>?_) (λh=>?_) <;> (rw[h];conv=>whnf))
    |(refine⟨au k,an s,aA hs,?_⟩;conv=>whnf)
    |(refine⟨au k,jn o,aA ho,?_⟩;conv=>whnf)
    |fail)
 . (refine af rfl ?_;obtain rfl:k=z.sets.length:=(by simp at h1;omega);show AV.d (D.bool true)=_;rw[hyes,hall])
end Go.Proofs.YtjapjahfllomkaaGreatDoor
namespace NP
open NQ Go
def mf(al:Bs)(s:Signed):Bs:=if (s.set.type==3)=true then s.set.name else al
def r8(k:Nat)(s p:Signed):Bs:=if (decide ((k:Int)>0)&&(p.set.name==s.set.name))=true then s.set.name else[]
def vP(al last:Bs)(t:Int):Bool:=(!(last==[])&&(t==3))||((!(last==[])&&(last==al))&&(t != 3)&&(t != 8))
def xO(z:az):Bs->Nat->List Signed->Bool
 |_,_,[]=>true
 |al,k,s::t=> !vP (mf al s) (r8 k s ((z.sets[k-1]?).getD s)) s.set.type&&xO z (mf al s) (k+1) t
def r9(z:az):Bool:=xO z [] 0 z.sets
def sd(z:az):Bool:=ordered z&&iA (λt=>bR z.sets ⟨z.apex,t⟩) z&&r9 z&&vC z&&vB z
end NP
namespace Go.Proofs.YtjapjahfllomkaaGreatDoor
open NQ Go NP Go.RowKit
theorem MZ(z:az)(hn:z.sets.length<=100000):NQ.Fn cx 189 [.agg (aM z)] (.d (.bool (r9 z))) []:=by
 refine aB aP mixed Tryz.func189 (by kernel_rfl) rfl (ai rfl) ?_;conv=>whnf
 refine⟨Nat×Bs,λx=>⟨[(1,.ptr 1 0),(3,.d (.str x.2)),(4,.d (.int .i64 x.1))],[(1,.box ((aM z).map .d))]⟩,
  λx=>x.1<=z.sets.length/\xO z x.2 x.1 (z.sets.drop x.1)=r9 z,λx=>z.sets.length-x.1,
  ⟨(0,[]),⟨by simp,rfl⟩,ag.keep ⟨ab,ab,ab,trivial⟩ ⟨ab,trivial⟩⟩,?_⟩
 rintro⟨k,al⟩ ⟨hk,hc⟩;simp only at hk hc
 conv=>whnf
 refine ae (λh1=>?_) (λh1=>?_) <;> (rw[h1];conv=>whnf)
 . have hlt:k<z.sets.length:=by simp at h1;omega
   obtain⟨s,hs⟩:∃s,z.sets[k]? =some s:=⟨_,ah hlt⟩
   obtain⟨p,hp⟩:∃p,z.sets[k-1]? =some p:=⟨_,ah (by omega)⟩
   rw[drop_cons hs,xO,hp,Option.getD_some]at hc;have e0:(⟨#[]⟩:ByteArray).data.toList=[]:=rfl;have e1:(([]:Bs)==[])=true:=rfl;clear h1
   repeat' (first
    |exact(mw (b:=s.set.type==3) (by assumption) (by assumption)).elim
    |exact(mw (b:= !(s.set.name==[])) (by assumption) (by assumption)).elim
    |(refine⟨(by kernel_rfl:bc _ _=true),?_⟩;conv=>whnf)
    |(refine af rfl ?_;show AV.d (D.bool false)=_;(try simp only[e0]at *);simp only[vP,mf,r8, *, if_true,if_false,aD]at hc;rw[<- hc];done)
    |(refine⟨(k+1,al),⟨hlt,(by(try simp only[e0]at *);simp only[vP,mf,r8, *, if_true,if_false,aD]at hc;exact hc)⟩,by(show z.sets.length-(k+1)<z.sets.length-k;omega),ag.keep ⟨ab,ab,⟨ak (by omega),rfl⟩,trivial⟩ ⟨ab,trivial⟩⟩;done)
    |(refine⟨(k+1,s.set.name),⟨hlt,(by(try simp only[e0]at *);simp only[vP,mf,r8, *, if_true,if_false,aD]at hc;exact hc)⟩,by(show z.sets.length-(k+1)<z.sets.length-k;omega),ag.keep ⟨ab,ab,⟨ak (by omega),rfl⟩,trivial⟩ ⟨ab,trivial⟩⟩;done)
    |(refine ae (λh=>?_) (λh=>?_) <;> (rw[h];conv=>whnf))
    |(refine⟨(ia (by assumption) (by omega)).1,an p,eC (by assumption) (by omega) hp,?_⟩;conv=>whnf)
    |(refine⟨au k,an s,aA hs,?_⟩;conv=>whnf)
    |fail)
 . obtain rfl:k=z.sets.length:=by simp at h1;omega
   refine af rfl ?_;rw[List.drop_length,xO]at hc;rw[<- hc];rfl
theorem KE(z:az)(hn:z.sets.length<=100000):NQ.Fn cx 115 [.agg (aM z)] (.d (.bool (sd z))) []:=by
 refine aB aP mixed Tryz.func115 (by kernel_rfl) rfl (ai rfl) ?_;conv=>whnf
 (refine⟨_,_,PI z,?_⟩;conv=>whnf)
 (refine ae (λh=>?_) (λh=>?_) <;> (rw[h];conv=>whnf))
 . have ho:=Ordered.of h
   repeat' (first|(refine⟨_,_,PU z hn,?_⟩;conv=>whnf)|(refine⟨_,_,MZ z hn,?_⟩;conv=>whnf)|(refine⟨_,_,N7 z hn ho.name,?_⟩;conv=>whnf)|(refine⟨_,_,N2 z hn ho.name,?_⟩;conv=>whnf)|(refine⟨(by kernel_rfl:bc _ _=true),?_⟩;conv=>whnf)|(refine ae (λh=>?_) (λh=>?_) <;> (rw[h];conv=>whnf))|fail)
   all_goals first
    |(refine af rfl ?_;show AV.d (D.bool false)=_;(try simp only[aj]at *);simp only[sd, *, if_true,if_false,aD];done)
    |(refine af rfl ?_;show AV.d (D.bool _)=_;simp only[sd, *, if_true,if_false,aD];done)
    |fail
 . (refine af rfl ?_;show AV.d (D.bool false)=_;(try simp only[aj]at *);simp only[sd, *, if_true,if_false,aD];done)
end Go.Proofs.YtjapjahfllomkaaGreatDoor
namespace NP
open NQ Go
theorem LM(s:Signed)(b:Bs):pC s b=kg s b:=by
 unfold pC kg;by_cases hb:b=[]
 . subst hb;simp
 . have h1:(b==[])=false:=by simpa using hb
   by_cases hn:s.set.name=b
   . subst hn;simp only[h1,beq_self_eq_true,oK,gU,dF,qS,gT,dE,ji,cr,if_false,if_true];rw[Bool.eq_iff_iff];simp;exact⟨λ⟨⟨⟨a,b⟩,c⟩,d⟩=>⟨⟨⟨b,c⟩,d⟩,a⟩,λ⟨⟨⟨b,c⟩,d⟩,a⟩=>⟨⟨⟨a,b⟩,c⟩,d⟩⟩
   . have h2:(s.set.name==b)=false:=by simpa using hn
     have h3:(b==s.set.name)=false:=by simpa using λe=>hn e.symm
     simp only[h1,h2,h3,oK,gU,dF,gT,iM,ji,cr,if_false];rw[Bool.eq_iff_iff];simp;omega
theorem LL{z:az}(h:eu z=cZ z):vC z=nL z (cZ z):=by
 unfold vC nL;have:oo z=cutAt z (cZ z):=funext λi=>by
  unfold oo cutAt;rw[h];cases z.sets[i]? with
  |none=>rfl
  |some s =>
   cases (cZ z)[i]? with
   |none=>rfl
   |some b=>exact congrArg Bool.not (LM s b)
 rw[this]
theorem LI(apex:Bs)(s:Signed)(b:Bs):(!pB apex s (rB s.set.type b))=(!mP s b&&gk s.sigs apex):=by
 unfold pB mP rB;cases gk s.sigs apex <;> cases (b==[]) <;> cases decide ((s.sigs.length:Int)>0) <;> cases h2:(s.set.type==2) <;> cases h1:(s.set.type==1) <;> simp[bne,h1,h2]
theorem BF(n:Nat)(f g:Nat->Bool):(List.range n).all (λi=>f i&&g i)=((List.range n).all f&&(List.range n).all g):=by
 rw[Bool.eq_iff_iff];simp only[aC,ax];exact⟨λh=>⟨λi hi=>(h i hi).1,λi hi=>(h i hi).2⟩,λh i hi=>⟨h.1 i hi,h.2 i hi⟩⟩
theorem LH{z:az}(h:eu z=cZ z):vB z=(pn z (cZ z)&&nP z):=by
 unfold vB pn nP;rw[<- BF];have hb:(cZ z).length=z.sets.length:=tY _ _ _;rw[Bool.eq_iff_iff,ax,ax];have heq:∀i,i<z.sets.length->om z i=(pk z (cZ z) i&&lU z i):=by
  intro i hi;obtain⟨s,hs⟩:∃s,z.sets[i]? =some s:=⟨_,ah hi⟩
  obtain⟨b,hb'⟩:∃b,(cZ z)[i]? =some b:=⟨_,ah (by omega)⟩
  have ho:(rC z)[i]? =some (rB s.set.type b):=by
   unfold rC;rw[aL,h,(List.getElem?_zip_eq_some.2 ⟨hs,hb'⟩:(z.sets.zip (cZ z))[i]? =some (s,b))];rfl
  simp only[om,pk,lU,hs,hb',ho];exact LI _ _ _
 exact⟨λk i hi=>by rw[<- heq i (List.mem_range.1 hi)];exact k i hi,λk i hi=>by rw[heq i (List.mem_range.1 hi)];exact k i hi⟩
theorem nE{a z:Bs}(h:aF a z=true):aH z a<=0:=by
 rw[dK]at h;obtain⟨t,ht⟩:=h;unfold aH;rw[<- ht];exact Es bV _ _
theorem nF{a b c z:Bs}(ha:aF a z=true)(hc:aF c z=true)(h1:aH a b<=0)(h2:aH b c<=0):aF b z=true:=by
 rw[dK]at ha hc ⊢;obtain⟨s,hs⟩:=ha;obtain⟨t,ht⟩:=hc;unfold aH at h1 h2;rw[<- hs]at h1;rw[<- ht]at h2;exact qs bV _ _ _ _ h1 h2
theorem gN(a:Bs):aF a a=true:=by rw[dK];exact List.prefix_refl _
theorem I5{a b:Bs}(h:aH a b<0):aH a b= -1:=by rcases bl.range a b with e|e|e <;> omega
theorem Lf{a b c:Bs}(h:aH a b<0)(k:aH b c<0):aH a c<0:=by
 have:=bl.lt _ _ _ (I5 h) (I5 k);omega
theorem FC{a b:Bs}(h:aH a b<0):¬aH b a<=0:=by have:=bl.anti a b;omega
abbrev Asc(l:List Bs):Prop:=l.Pairwise λa b=>aH a b<0
theorem Cy(apex:Bs):∀(l:List Signed),dG l->Asc (cB apex l)
 |[],_=>List.Pairwise.nil
 |x::t,h=>by
  have ih:=Cy apex t h.tail;unfold cB;split
  . rename_i hx;refine List.Pairwise.cons ?_ ih;intro c hc;have hm:∀(l:List Signed) c,c∈cB apex l-> ∃s∈l,s.set.name=c/\s.set.type=2:=by
     intro l;induction l with
     |nil=>intro c h;cases h
     |cons s l ih =>
      intro c h;unfold cB at h;split at h
      . rename_i hs;rcases List.mem_cons.1 h with rfl|h
        . refine⟨s,List.mem_cons_self .., rfl,?_⟩;unfold dt at hs;simp at hs;exact hs.1
        . obtain⟨y,hy,e⟩:=ih c h;exact⟨y,aK _ hy,e⟩
      . obtain⟨y,hy,e⟩:=ih c h;exact⟨y,aK _ hy,e⟩
    obtain⟨s,hs,e1,e2⟩:=hm t c hc;have hlt:=mr h s hs;have hx2:x.set.type=2:=by unfold dt at hx;simp at hx;exact hx.1
    unfold Signed.place at hlt;rw[e1,e2,hx2]at hlt;unfold cpl lex at hlt;split at hlt
    . have:db 2 2=0:=rfl;simp only at hlt;rw[this]at hlt;omega
    . exact hlt
  . exact ih
def wR(l:List Bs):Prop:= ∀a∈l,∀b∈l,aF a b=true->a=b
theorem Cd{l:List Bs}(h:Asc l)(hne:l.length≠0):∀a∈l,aH a (nQ l)<=0:=by
 intro a ha;obtain⟨i,hi,rfl⟩:=List.getElem_of_mem ha;rw[nQ,ah (by omega),Option.getD_some];by_cases e:i=l.length-1
 . subst e;rw[(bl.zero _ _).2 rfl];exact Int.le_refl _
 . have:=List.pairwise_iff_getElem.1 h i (l.length-1) hi (by omega) (by omega);omega
theorem uI:∀(rest acc:List Bs),Asc (acc++rest)->wR acc->Asc (ky acc rest)/\wR (ky acc rest)/\(∀a∈acc,a∈ky acc rest)/\(∀c∈rest,∃h∈ky acc rest,aF c h=true)
 |[],acc,h,ha=>⟨by rw[ky];simpa using h,ha,λa h=>h,λc h=>by cases h⟩
 |c::t,acc,h,ha=>by
  have hacc:Asc acc:=(List.pairwise_append.1 h).1;have hlt:∀a∈acc,aH a c<0:=λa hm=>(List.pairwise_append.1 h).2.2 a hm c (List.mem_cons_self ..)
  rw[ky];by_cases hn:qz acc c=true
  . rw[if_pos hn];have hno:∀a∈acc,aF c a=false:=by
     intro a hm;cases hu:aF c a with
     |false=>rfl
     |true =>
      have hne:acc.length≠0:=by cases acc with|nil=>cases hm|cons=>simp
      have h1:=Cd hacc hne a hm;have h2:=hlt _ (ml hne);have h3:=nF (gN a) hu h1 (by omega);have h4:=ha _ (ml hne) _ hm h3;unfold qz at hn;rw[h4,hu]at hn;simp at hn;exact absurd (by simpa using hn) hne
    have hanti:wR (acc++[c]):=by
     intro a hma b hmb hu;rcases List.mem_append.1 hma with qa|qa <;> rcases List.mem_append.1 hmb with qb|qb
     . exact ha a qa b qb hu
     . simp at qb;subst qb;exact absurd (nE hu) (FC (hlt a qa))
     . simp at qa;subst qa;rw[hno b qb]at hu;cases hu
     . simp at qa qb;rw[qa,qb]
    obtain⟨r1,r2,r3,r4⟩:=uI t (acc++[c]) (by simpa using h) hanti;refine⟨r1,r2,λa hm=>r3 a (List.mem_append_left _ hm),λx hx=>?_⟩;rcases List.mem_cons.1 hx with rfl|hx
    . exact⟨x,r3 x (by simp),gN x⟩
    . exact r4 x hx
  . rw[if_neg hn];have hne:acc.length≠0:=λe=>hn (by unfold qz;rw[e];rfl)
    have hu:aF c (nQ acc)=true:=by
     unfold qz at hn;simp at hn;exact hn.2
    have h' :Asc (acc++t):=by
     have h:=List.pairwise_append.1 h;refine List.pairwise_append.2 ?_;exact⟨h.1,(List.pairwise_cons.1 h.2.1).2,λa hm b hb=>h.2.2 a hm b (aK _ hb)⟩
    obtain⟨r1,r2,r3,r4⟩:=uI t acc h' ha;refine⟨r1,r2,r3,λx hx=>?_⟩;rcases List.mem_cons.1 hx with rfl|hx
    . exact⟨_,r3 _ (ml hne),hu⟩
    . exact r4 x hx
def spec(H:List Bs)(n:Bs):Bs:=(H.find? λh=>aF n h).getD []
theorem mv{H:List Bs}(hA:Asc H)(ha:wR H){n h:Bs}(hm:h∈H)(hu:aF n h=true):spec H n=h:=by
 unfold spec;cases hf:H.find? (λh=>aF n h)with
 |none=>have:=List.find?_eq_none.1 hf h hm;rw[hu]at this;exact absurd rfl this
 |some g =>
  have hg:=List.find?_some hf;have hgm:=List.mem_of_find?_eq_some hf;show g=h
  have h1:=nE hu;have h2:=nE hg;rcases bl.range g h with e|e|e
  . exact(ha h hm g hgm (nF (gN g) hg (by omega) h1)).symm
  . exact(bl.zero _ _).1 e
  . have:=bl.anti g h;exact ha g hgm h hm (nF (gN h) hu (by omega) h2)
theorem qM{H:List Bs}{n:Bs}(h:∀x∈H,aF n x=false):spec H n=[]:=by
 unfold spec;rw[List.find?_eq_none.2 λx hx=>by rw[h x hx];simp];rfl
def cnt(H:List Bs)(n:Bs):Nat:=(H.takeWhile λc=>decide (aH c n<=0)).length
theorem IN{H:List Bs}{n:Bs}{k:Nat}(hk:k<=H.length)(hpre:∀c∈H.take k,aH c n<=0):jl H n k=cnt H n:=by
 unfold jl cnt
 conv=>rhs;rw[<- List.take_append_drop k H]
 rw[List.takeWhile_append_of_pos (by intro a ha;simpa using hpre a ha),List.length_append,List.length_take];omega
theorem I9(H:List Bs)(n:Bs):cnt H n<=H.length:=by
 unfold cnt;exact(List.takeWhile_sublist _).length_le
theorem KA{α:Type}{p:α->Bool}:∀{l:List α} {x:α},x∈l.takeWhile p->p x=true
 |[],x,h=>by cases h
 |y::t,x,h=>by
  rw[List.takeWhile_cons]at h;split at h
  . rcases List.mem_cons.1 h with rfl|h
    . assumption
    . exact KA h
  . cases h
theorem Cr(H:List Bs)(n:Bs):∀c∈H.take (cnt H n),aH c n<=0:=by
 intro c hc;have:H.take (cnt H n)=H.takeWhile λc=>decide (aH c n<=0):=by
  unfold cnt;exact(List.prefix_iff_eq_take.1 (List.takeWhile_prefix _)).symm
 rw[this]at hc;have:=KA hc;simpa using this
theorem MX(H:List Bs)(n:Bs):H.take (cnt H n)=H.takeWhile λc=>decide (aH c n<=0):=by
 unfold cnt;exact(List.prefix_iff_eq_take.1 (List.takeWhile_prefix _)).symm
theorem vY{a b c:Bs}(h:aH a b<0)(k:aH b c<=0):aH a c<=0:=by
 rcases bl.range b c with e|e|e
 . have:=Lf h (by omega:aH b c<0);omega
 . rw[<- (bl.zero _ _).1 e];omega
 . omega
theorem Le{a b c:Bs}(h:aH a b<=0)(k:aH b c<=0):aH a c<=0:=by
 rcases bl.range a b with e|e|e
 . exact vY (by omega) k
 . rw[(bl.zero _ _).1 e];exact k
 . omega
theorem FR{n h:Bs}(hle:aH h n<=0):∀{H:List Bs},Asc H->h∈H->h∈H.takeWhile λc=>decide (aH c n<=0)
 |[],_,hm=>by cases hm
 |x::t,hA,hm=>by
  rcases List.mem_cons.1 hm with rfl|hm
  . rw[List.takeWhile_cons,if_pos (by simpa using hle)];exact List.mem_cons_self ..
  . have hx:=(List.pairwise_cons.1 hA).1 h hm;rw[List.takeWhile_cons,if_pos (by simpa using vY hx hle)];exact aK _ (FR hle (List.pairwise_cons.1 hA).2 hm)
theorem I0{H:List Bs}(hA:Asc H)(ha:wR H)(n:Bs):qY H (cnt H n) n=spec H n:=by
 have hpv:cnt H n≠0->ll H (cnt H n)=nQ (H.take (cnt H n))/\(H.take (cnt H n)).length≠0:=λh0=>by
  have hl:=I9 H n;have e:(H.take (cnt H n)).length=cnt H n:=by rw[List.length_take];omega
  refine⟨?_,by omega⟩;unfold ll nQ;rw[e,List.getElem?_take,if_pos (by omega)]
 by_cases hex:∃h∈H,aF n h=true
 . obtain⟨h,hm,hu⟩:=hex;have hmem:=FR (nE hu) hA hm;rw[<- MX]at hmem;have h0:cnt H n≠0:=λe=>by rw[e]at hmem;cases hmem
   obtain⟨e1,e2⟩:=hpv h0;have hAt:Asc (H.take (cnt H n)):=hA.sublist (List.take_sublist _ _);have h1:=Cd hAt e2 h hmem;have hgm:=ml e2;have h2:=Cr H n _ hgm;have h3:=ha _ (List.mem_of_mem_take hgm) _ hm (nF (gN h) hu h1 h2);have hpos:decide (((cnt H n:Nat):Int)>0)=true:=by simp;omega
   rw[mv hA ha hm hu,qY,e1,h3,hu,hpos];rfl
 . have hno:∀x∈H,aF n x=false:=λx hx=>by
    cases hu:aF n x with
    |false=>rfl
    |true=>exact absurd ⟨x,hx,hu⟩ hex
   rw[qM hno];by_cases h0:cnt H n=0
   . rw[qY,h0];rfl
   . obtain⟨e1,e2⟩:=hpv h0;rw[qY,e1,hno _ (List.mem_of_mem_take (ml e2)),gT];rfl
theorem wC{l:List Signed}{x:Signed}(h:dG (x::l)):∀s∈l,aH x.set.name s.set.name<=0:=λs hs=>by
 have hlt:=mr h s hs;unfold cpl lex Signed.place at hlt;simp only at hlt;split at hlt
 . omega
 . omega
theorem Ch{H:List Bs}(hA:Asc H)(ha:wR H):∀(l:List Signed) (k:Nat),dG l->k<=H.length->(∀s∈l,∀c∈H.take k,aH c s.set.name<=0)->bGo H k l=l.map λs=>spec H s.set.name
 |[],_,_,_,_=>rfl
 |s::t,k,hr,hk,hp=>by
  have e:=IN hk (hp s (List.mem_cons_self ..));rw[bGo,e,I0 hA ha,List.map_cons]
  congr 1
  refine Ch hA ha t _ hr.tail (I9 _ _) λx hx c hc=>?_
  exact Le (Cr _ _ c hc) (wC hr x hx)
theorem k9{z:az}(h:Ordered z):Asc (bK z)/\wR (bK z)/\ ∀c∈cB z.apex z.sets,∃g∈bK z,aF c g=true:=by
 obtain⟨h1,h2,_,h4⟩:=uI (cB z.apex z.sets) [] (by simpa using Cy z.apex z.sets h.rising) (λa ha=>by cases ha);exact⟨h1,h2,h4⟩
theorem tV{z:az}(h:Ordered z):eu z=z.sets.map λs=>spec (bK z) s.set.name:=by
 obtain⟨h1,h2,_⟩:=k9 h;exact Ch h1 h2 z.sets 0 h.rising (by omega) λs _ c hc=>by cases hc
theorem mu:∀{l:List Signed},dG l->l.Pairwise λa b=>aH a.set.name b.set.name<=0
 |[],_=>List.Pairwise.nil
 |x::t,h=>List.Pairwise.cons (wC h) (mu h.tail)
theorem xd(apex n:Bs):∀(l:List Signed),dH apex l n=true ↔ n∈cB apex l
 |[]=>by simp[dH,cB]
 |s::t=>by
  have ih:=xd apex n t;unfold dH at ih ⊢;unfold cB;rw[List.any_cons,Bool.or_eq_true,ih];by_cases h:dt apex s=true
  . rw[if_pos h,h,dF,List.mem_cons,beq_iff_eq];exact⟨λk=>k.imp (λe=>e.symm) id,λk=>k.imp (λe=>e.symm) id⟩
  . have h' :dt apex s=false:=by simpa using h
    rw[if_neg h,h'];simp
theorem MN(H:List Bs)(n:Bs):spec H n=[]\/spec H n∈H:=by
 unfold spec;cases hf:H.find? (λh=>aF n h)with
 |none=>exact .inl rfl
 |some g=>exact .inr (List.mem_of_find?_eq_some hf)
theorem pP{z:az}{h:Bs}(hm:h∈bK z):h∈cB z.apex z.sets:=by
 rcases xn _ _ _ hm with q|q
 . cases q
 . exact q
theorem o8{z:az}(ho:Ordered z){h:Bs}(hm:h∈bK z):ao h=true:=by
 obtain⟨s,hs,e⟩:=kj _ _ _ (pP hm);rw[<- e];exact ho.name s hs
theorem Kr{z:az}(ho:Ordered z){pre t:List Signed}{s:Signed}{c:Bs}(hz:pre++s::t=z.sets)
 (hc:(pre=[]/\c=[])\/ ∃p y,pre=p++[y]/\c=spec (bK z) y.set.name):jU (dH z.apex z.sets) c s.set.name=spec (bK z) s.set.name:=by
 obtain⟨hA,ha,hcov⟩:=k9 ho;have hsm:s∈z.sets:=by rw[<- hz];simp
 have vs:=ho.name s hsm;have hcH:c=[]\/c∈bK z:=by
  rcases hc with ⟨_,e⟩|⟨p,y,_,e⟩
  . exact .inl e
  . rw[e];exact MN _ _
 have hu:∀h∈bK z,(bG s.set.name h).1=aF s.set.name h:=λh hm=>by
  unfold bG;rw[if_pos ⟨vs,o8 ho hm⟩]
 have hne:∀h∈bK z,(h==[])=false:=λh hm=>by
  have:=o8 ho hm;cases h with
  |nil=>exact absurd this (by decide)
  |cons=>rfl
 have hpw:=mu ho.rising;rw[<- hz]at hpw;obtain⟨q1,q2,q3⟩:=List.pairwise_append.1 hpw;by_cases hex:∃h∈bK z,aF s.set.name h=true
 . obtain⟨h,hm,hun⟩:=hex;rw[mv hA ha hm hun];by_cases hch:c=h
   . subst hch;unfold jU;simp only[hne c hm,hu c hm,hun,qS,gT,iM,cr,if_false]
   . have hnh:s.set.name=h:=by
      refine Classical.byContradiction λhnn=>hch ?_
      have hle:=nE hun;have hlt:aH h s.set.name<0:=by
       rcases bl.range h s.set.name with e|e|e
       . omega
       . exact absurd ((bl.zero _ _).1 e).symm hnn
       . omega
      obtain⟨x,hx,ex⟩:=kj _ _ _ (pP hm);rw[<- hz]at hx;have hxp:x∈pre:=by
       rcases List.mem_append.1 hx with k|k
       . exact k
       . rcases List.mem_cons.1 k with rfl|k
         . exact absurd ex hnn
         . have:=(List.pairwise_cons.1 q2).1 x k;rw[ex]at this;exact absurd this (FC hlt)
      rcases hc with ⟨e,_⟩|⟨p,y,e,ec⟩
      . rw[e]at hxp;cases hxp
      . have hys:=q3 y (by rw[e];simp) s (List.mem_cons_self ..);have hxy:aH x.set.name y.set.name<=0:=by
         rw[e]at hxp q1;rcases List.mem_append.1 hxp with k|k
         . exact(List.pairwise_append.1 q1).2.2 x k y (by simp)
         . simp at k;subst k;rw[(bl.zero _ _).2 rfl];exact Int.le_refl _
        rw[ex]at hxy;rw[ec,mv hA ha hm (nF (gN h) hun hxy hys)]
     have hcut:dH z.apex z.sets s.set.name=true:=(xd _ _ _).2 (by rw[hnh];exact pP hm);have hc' :(if (!(c==[])&& !(bG s.set.name c).1)=true then[]else c)=[]:=by
      rcases hcH with e|e
      . subst e;rfl
      . have:aF s.set.name c=false:=by
         cases hk:aF s.set.name c with
         |false=>rfl
         |true=>exact absurd (ha h hm c e (by rw[<- hnh];exact hk)).symm hch
        rw[hne c e,hu c e,this];rfl
     unfold jU;simp only[hc',hcut];exact hnh
 . have hno:∀x∈bK z,aF s.set.name x=false:=λx hx=>by
    cases hk:aF s.set.name x with
    |false=>rfl
    |true=>exact absurd ⟨x,hx,hk⟩ hex
   rw[qM hno];have hcut:dH z.apex z.sets s.set.name=false:=by
    cases hk:dH z.apex z.sets s.set.name with
    |false=>rfl
    |true =>
     obtain⟨g,hg,hgu⟩:=hcov _ ((xd _ _ _).1 hk);rw[hno g hg]at hgu;cases hgu
   have hc' :(if (!(c==[])&& !(bG s.set.name c).1)=true then[]else c)=[]:=by
    rcases hcH with e|e
    . subst e;rfl
    . rw[hne c e,hu c e,hno c e];rfl
   unfold jU;simp only[hc',hcut];rfl
theorem FA{z:az}(ho:Ordered z):∀(l pre:List Signed) (c:Bs),pre++l=z.sets->((pre=[]/\c=[])\/ ∃p y,pre=p++[y]/\c=spec (bK z) y.set.name) ->
 bh (dH z.apex z.sets) c l=l.map λs=>spec (bK z) s.set.name
 |[],_,_,_,_=>rfl
 |s::t,pre,c,hz,hc=>by
  rw[bh,Kr ho hz hc,List.map_cons]
  congr 1
  exact FA ho t (pre++[s]) _ (by rw[<- hz];simp) (.inr ⟨pre,s,rfl,rfl⟩)
theorem tW{z:az}(ho:Ordered z):eu z=cZ z:=by
 rw[tV ho];exact(FA ho z.sets [] [] rfl (.inl ⟨rfl,rfl⟩)).symm
def j2(l:List Signed):Nat->Bs
 |0=>[]
 |i+1=>match l[i]? with|some s=>mf (j2 l i) s|none=>j2 l i
def Aa(z:az)(i:Nat):Bool:=match z.sets[i]? with|some s=> !vP (mf (j2 z.sets i) s) (r8 i s ((z.sets[i-1]?).getD s)) s.set.type|none=>true
theorem D0(z:az):∀(l:List Signed) (k:Nat),z.sets.drop k=l->xO z (j2 z.sets k) k l=(List.range l.length).all λi=>Aa z (k+i)
 |[],_,_=>rfl
 |s::t,k,h=>by
  have hs:z.sets[k]? =some s:=by
   have:=congrArg (λl=>l[0]?) h;simpa using this
  have ht:z.sets.drop (k+1)=t:=by
   have:=drop_cons hs;rw[h]at this;exact(List.cons.inj this).2.symm
  have e:j2 z.sets (k+1)=mf (j2 z.sets k) s:=by simp only[j2,hs]
  have ih:=D0 z t (k+1) ht;rw[e]at ih;rw[xO,ih,List.length_cons,List.range_succ_eq_map,List.all_cons,List.all_map]
  congr 1
  . simp only[Nat.add_zero,Aa,hs]
  . congr 1;funext i;simp only[Function.comp];congr 1;omega
theorem Kx(z:az):r9 z=(List.range z.sets.length).all (Aa z):=by
 have:=D0 z z.sets 0 (by simp);rw[r9];simpa [j2] using this
theorem Aj(l:List Signed):∀i,i<=l.length->(j2 l i=[]/\ ∀j s,j<i->l[j]? =some s->s.set.type≠3)\/(∃j s,j<i/\l[j]? =some s/\s.set.type=3/\j2 l i=s.set.name/\ ∀j' s',j<j' ->j' <i->l[j']? =some s' ->s'.set.type≠3)
 |0,_=> .inl ⟨rfl,λj s h=>by omega⟩
 |i+1,hi=>by
  obtain⟨s,hs⟩:∃s,l[i]? =some s:=⟨_,ah (by omega)⟩
  have e:j2 l (i+1)=mf (j2 l i) s:=by simp only[j2,hs]
  by_cases h3:s.set.type=3
  . right
    refine⟨i,s,by omega,hs,h3,by rw[e,mf,if_pos (by simpa using h3)],λj' s' h h' =>by omega⟩
  . have e' :j2 l (i+1)=j2 l i:=by rw[e,mf,if_neg (by simpa using h3)]
    rw[e'];rcases Aj l i (by omega)with ⟨k1,k2⟩|⟨j,x,k1,k2,k3,k4,k5⟩
    . refine .inl ⟨k1,λj y hj hy=>?_⟩;by_cases ej:j=i
      . subst ej;rw[hs]at hy;cases hy;exact h3
      . exact k2 j y (by omega) hy
    . refine .inr ⟨j,x,by omega,k2,k3,k4,λj' y h h' hy=>?_⟩;by_cases ej:j' =i
      . subst ej;rw[hs]at hy;cases hy;exact h3
      . exact k5 j' y h (by omega) hy
theorem gn:∀{l:List Signed},dG l-> ∀{i j:Nat} {a b:Signed},i<j->l[i]? =some a->l[j]? =some b->cpl a.place b.place<0
 |[],_,_,_,_,_,_,h,_=>by cases h
 |x::t,hr,i,j,a,b,hij,ha,hb=>by
  cases j with
  |zero=>omega
  |succ j =>
   cases i with
   |zero=>cases ha;exact mr hr b (ar hb)
   |succ i=>exact gn hr.tail (by omega) ha hb
theorem jw{a b:Signed}(h:cpl a.place b.place<0):aH a.set.name b.set.name<=0/\(a.set.name=b.set.name->a.set.type<b.set.type):=by
 unfold cpl lex Signed.place at h;simp only at h;split at h
 . rename_i e;refine⟨by omega,λ_=>?_⟩;unfold db at h;split at h
   . assumption
   . split at h <;> omega
 . rename_i e;exact⟨by omega,λk=>absurd ((bl.zero _ _).2 k) e⟩
theorem Gw{a b:Bs}(h:aH a b<=0)(k:aH b a<=0):a=b:=by
 have:=bl.anti a b;exact(bl.zero _ _).1 (by omega)
theorem Ac{z:az}{i:Nat}{s p:Signed}(hs:z.sets[i]? =some s)(hp:z.sets[i-1]? =some p)(hne:s.set.name≠[]) :
 Aa z i=false ↔ 0<i/\p.set.name=s.set.name/\(s.set.type=3\/(s.set.name=mf (j2 z.sets i) s/\s.set.type≠3/\s.set.type≠8)):=by
 simp only[Aa,hs,hp,Option.getD_some,Bool.not_eq_false'];unfold vP r8;by_cases h:0<i/\p.set.name=s.set.name
 . have hi:((decide ((i:Int)>0)&&(p.set.name==s.set.name))=true):=by simp[h.1,h.2]
   rw[if_pos hi];have:(s.set.name==[])=false:=by simpa using hne
   simp[this,h.1,h.2,and_assoc]
 . have hi:¬((decide ((i:Int)>0)&&(p.set.name==s.set.name))=true):=by
    intro k;simp at k;exact h ⟨k.1,k.2⟩
   rw[if_neg hi];simp;intro k1 k2;exact absurd ⟨k1,k2⟩ h
theorem nh{z:az}{i:Nat}{s p:Signed}(hs:z.sets[i]? =some s)(hp:z.sets[i-1]? =some p) :
 mz z i=false ↔ s.set.type=3/\((0<i/\p.set.name=s.set.name)\/ ∃x,z.sets[i+1]? =some x/\x.set.name=s.set.name/\x.set.type≠8):=by
 simp only[mz,hs,hp,Option.getD_some,Bool.not_eq_false'];unfold tS;by_cases hlt:i+1<z.sets.length
 . obtain⟨x,hx⟩:∃x,z.sets[i+1]? =some x:=⟨_,ah hlt⟩
   have hd:decide (((i:Nat):Int)+1<(z.sets.length:Int))=true:=by simp;omega
   simp[hx,hd]
 . have hx:z.sets[i+1]? =none:=by simp;omega
   have hd:decide (((i:Nat):Int)+1<(z.sets.length:Int))=false:=by simp;omega
   simp[hx,hd]
theorem MY{z:az}(ho:Ordered z):r9 z=aliases z:=by
 rw[Kx,aliases];have hne:∀s∈z.sets,s.set.name≠[]:=λs hs e=>by
  have:=ho.name s hs;rw[e]at this;exact absurd this (by decide)
 have h8:∀s∈z.sets,s.set.type<=8:=λs hs=>by
  have:=ho.set s hs;unfold dL at this;simp only[aC,Bool.not_eq_true',Bool.or_eq_false_iff,Bool.not_eq_false']at this;have:=this.1.1.1.1.2;unfold within at this;simp at this;omega
 rw[Bool.eq_iff_iff,ax,ax];constructor
 . intro h i hi;have hi:=List.mem_range.1 hi;obtain⟨s,hs⟩:∃s,z.sets[i]? =some s:=⟨_,ah hi⟩
   obtain⟨p,hp⟩:∃p,z.sets[i-1]? =some p:=⟨_,ah (by omega)⟩
   have hm:=ar hs;cases hb:mz z i with
   |true=>rfl
   |false =>
    obtain⟨t3,k⟩:=(nh hs hp).1 hb;rcases k with ⟨k1,k2⟩|⟨x,hx,k1,k2⟩
    . have:=h i (List.mem_range.2 hi);rw[(Ac hs hp (hne s hm)).2 ⟨k1,k2,.inl t3⟩]at this;cases this
    . have hl:=(av.1 hx).1;have hmx:=ar hx;have ht:=(jw (gn ho.rising (Nat.lt_succ_self i) hs hx)).2 k1.symm;have ea:j2 z.sets (i+1)=s.set.name:=by
       simp only[j2,hs];rw[mf,if_pos (by simpa using t3)]
      have:=h (i+1) (List.mem_range.2 hl);rw[(Ac hx (by simpa using hs) (hne x hmx)).2 ⟨by omega,k1.symm,.inr ⟨by rw[mf,if_neg (by simp;omega),ea,k1],by omega,k2⟩⟩]at this;cases this
 . intro h i hi;have hi:=List.mem_range.1 hi;obtain⟨s,hs⟩:∃s,z.sets[i]? =some s:=⟨_,ah hi⟩
   obtain⟨p,hp⟩:∃p,z.sets[i-1]? =some p:=⟨_,ah (by omega)⟩
   have hm:=ar hs;cases hb:Aa z i with
   |true=>rfl
   |false =>
    obtain⟨k0,kn,k⟩:=(Ac hs hp (hne s hm)).1 hb;rcases k with t3|⟨e,t3,t8⟩
    . have:=h i (List.mem_range.2 hi);rw[(nh hs hp).2 ⟨t3,.inl ⟨k0,kn⟩⟩]at this;cases this
    . rw[mf,if_neg (by simpa using t3)]at e;rcases Aj z.sets i (by omega)with ⟨q,_⟩|⟨j,y,q1,q2,q3,q4,_⟩
      . exact absurd (e.trans q) (hne s hm)
      . have hys:y.set.name=s.set.name:=by rw[e,q4]
        obtain⟨x,hx⟩:∃x,z.sets[j+1]? =some x:=⟨_,ah (by omega)⟩
        obtain⟨p',hp'⟩:∃p',z.sets[j-1]? =some p' :=⟨_,ah (by omega)⟩
        have hyx:=(jw (gn ho.rising (Nat.lt_succ_self j) q2 hx)).1;have hno:=h j (List.mem_range.2 (by omega));by_cases ej:j+1=i
        . rw[ej,hs]at hx;cases hx;rw[(nh q2 hp').2 ⟨q3,.inr ⟨s,by rw[ej];exact hs,hys.symm,t8⟩⟩]at hno;cases hno
        . have hxs:=jw (gn ho.rising (show j+1<i by omega) hx hs);have ex:x.set.name=s.set.name:=Gw hxs.1 (by rw[<- hys];exact hyx);have:=hxs.2 ex;have:=h8 s hm;rw[(nh q2 hp').2 ⟨q3,.inr ⟨x,hx,by rw[ex,hys],by omega⟩⟩]at hno;cases hno
theorem M3(z:az):sd z=aW z:=by
 unfold sd aW;cases ho:ordered z with
 |false=>simp
 |true =>
  have o:=Ordered.of ho;rw[MY o,LL (tW o),LH (tW o)];simp only[dF,Bool.and_assoc]
theorem xe{α:Type}{a b:List α}(hl:a.length=b.length)(h:∀i,i<a.length->a[i]? =b[i]?):a=b:=by
 apply List.ext_getElem?;intro i;by_cases hi:i<a.length
 . exact h i hi
 . rw[List.getElem?_eq_none (by omega),List.getElem?_eq_none (by omega)]
theorem zm{α:Type}{a b:List α}{k:Nat}(h:∀i,i<k->a[i]? =b[i]?)(hk:a[k]? =b[k]?):∀i,i<k+1->a[i]? =b[i]? :=λi hi=>by
 rcases Nat.lt_or_eq_of_le (Nat.le_of_lt_succ hi)with h1|rfl
 . exact h i h1
 . exact hk
theorem vG{α:Type}[DecidableEq α]{a b:α}(h:a≠b):AV.d (D.bool false)=AV.d (D.bool (decide (a=b))):=by rw[decide_eq_false h]
theorem Ee{α:Type}[DecidableEq α]{a b:α}(h:a=b):AV.d (D.bool true)=AV.d (D.bool (decide (a=b))):=by rw[decide_eq_true h]
theorem Dc{α β:Type}{f:α->β}{a b:List α}(h:(((a.map f).length:Int) != ((b.map f).length:Int))=false):a.length=b.length:=by
 simp at h;omega
end NP
namespace Go.Proofs.YtjapjahfllomkaaGreatDoor
open NQ Go NP Go.RowKit
end Go.Proofs.YtjapjahfllomkaaGreatDoor
