/-
  Merged texts.
-/
import Derived.Test.YtodofogcincleaaGreatDoorTyM
import Derived.Test.YtodofogcincleaaGreatDoorMZb
set_option linter.all false
namespace NP
open NQ Go
def aI(d:Datum):List D:=[.str d.text,.int .i64 d.n,.int .i64 d.m]
def lH(g:Sig):List D:=[.str g.zone,.int .i64 g.key,.int .i64 g.alg,.int .i64 g.since,.int .i64 g.till,.int .u64 g.sum]
def bJ(s:ck):List D:=[.str s.name,.int .i64 s.type,.int .i64 s.life,.slice 3 (s.data.map aI)]
def ak(s:Signed):List D:=[.str s.set.name,.int .i64 s.set.type,.int .i64 s.set.life,.slice 3 (s.set.data.map aI),.slice 6 (s.sigs.map lH)]
def aG(z:aB):List D:=[.str z.apex,.slice 5 (z.sets.map ak)]
def oC(q:dz):List D:=[.str q.name,.int .i64 q.type]
def Cw(r:xg):List D:=[.int .i64 r.text,.int .i64 r.leastN,.int .i64 r.mostN,.int .i64 r.leastM,.int .i64 r.mostM,.bool r.even,.bool r.single,.bool r.Kl]
end NP
namespace Go.Proofs.YtodofogcincleaaGreatDoor
open NQ Go NP Go.RowKit
theorem JY{w:World}{O L:Nat->Prop}{σ:Nat->Value}{a b:AV}{u v:Value}(h1:au w O L σ a u)(h2:au w O L σ b v):au w O L σ (.tuple [a,b]) (.tuple #[u,v]):=by
 refine .tuple _ _ rfl λj c hj=>?_
 rcases j with _|_|j
 . cases hj;exact h1
 . cases hj;exact h2
 . simp at hj
theorem mg(s:Bs):NQ.Fn cx 68 [.str s] (.d (.bool (bc s))) []:=by
 refine eH ⟨_,Tryz.func68,by kernel_rfl,by kernel_rfl⟩ rfl λw vs _ hsz hrep=>?_
 obtain⟨b,hb,rfl⟩:=fm (hrep 0 _ rfl);rw[wg hsz,hb];exact(Fq b w).mono λe w' ⟨he,hbel⟩=>⟨_,he,hbel,.fe _⟩
theorem tO(s:Bs):NQ.Fn cx 81 [.str s] (.d (.bool (jO s))) []:=by
 refine eH ⟨_,Tryz.func81,by kernel_rfl,by kernel_rfl⟩ rfl λw vs _ hsz hrep=>?_
 obtain⟨b,hb,rfl⟩:=fm (hrep 0 _ rfl);rw[wg hsz,hb];exact(xB b w).mono λe w' ⟨he,hbel⟩=>⟨_,he,hbel ▸ Below.refl _ _,.fe _⟩
theorem Kq(s:Bs):NQ.Fn cx 201 [.str s] (.tuple [.d (.str (iq s).1),.d (.int .i64 (iq s).2)]) []:=by
 refine eH ⟨_,Tryz.func201,by kernel_rfl,by kernel_rfl⟩ rfl λw vs _ hsz hrep=>?_
 obtain⟨b,hb,rfl⟩:=fm (hrep 0 _ rfl);rw[wg hsz,hb];exact(CF b w).mono λe w' ⟨he,hbel⟩=>⟨_,he,hbel,JY (.d _ _ (.str _ _ (S_mk _))) (.mkInt _ _)⟩
theorem nu(s z:Bs):NQ.Fn cx 94 [.str s,.str z] (.tuple [.d (.bool (bl s z).1),.d (.int .i64 (bl s z).2)]) []:=by
 refine eH ⟨_,Tryz.func94,by kernel_rfl,by kernel_rfl⟩ rfl λw vs _ hsz hrep=>?_
 obtain⟨b,hb,rfl⟩:=fm (hrep 0 _ rfl);obtain⟨c,hc,rfl⟩:=fm (hrep 1 _ rfl);rw[wh hsz,hb,hc];exact(Fp b c w).mono λe w' ⟨he,hbel⟩=>⟨_,he,hbel,JY (.fe _) (.mkInt _ _)⟩
theorem xU(s z:Bs):NQ.Fn cx 204 [.str s,.str z] (.tuple [.d (.int .i64 (ej s z).1),.d (.int .i64 (ej s z).2)]) []:=by
 refine eH ⟨_,Tryz.func204,by kernel_rfl,by kernel_rfl⟩ rfl λw vs _ hsz hrep=>?_
 obtain⟨b,hb,rfl⟩:=fm (hrep 0 _ rfl);obtain⟨c,hc,rfl⟩:=fm (hrep 1 _ rfl);rw[wh hsz,hb,hc];exact(BV b c w).mono λe w' ⟨he,hbel⟩=>⟨_,he,hbel,JY (.mkInt _ _) (.mkInt _ _)⟩
theorem BT(x lo hi:Int):NQ.Fn cx 80 [.int .i64 x,.int .i64 lo,.int .i64 hi] (.d (.bool (within x lo hi))) []:=by
 refine eH ⟨_,Tryz.func80,by kernel_rfl,by kernel_rfl⟩ rfl λw vs _ hsz hrep=>?_
 rw[PR hsz,vZ (hrep 0 _ rfl),vZ (hrep 1 _ rfl),vZ (hrep 2 _ rfl)];exact(jU x lo hi w).mono λe w' ⟨he,hbel⟩=>⟨_,he,hbel ▸ Below.refl _ _,.fe _⟩
theorem NX(x:Int):NQ.Fn cx 93 [.int .i64 x] (.d (.bool false)) []:=by
 refine aM aV mixed Tryz.func93 (by kernel_rfl) rfl (ag rfl) ?_;conv=>whnf
 repeat' (first|(refine af (λh=>?_) (λh=>?_) <;> (rw[h];conv=>whnf))|fail)
 all_goals (refine al rfl ?_;simp[D.dB])
theorem kI(x y:Int):NQ.Fn cx 44 [.int .i64 x,.int .i64 y] (.d (.int .i64 (cR x y))) []:=by
 refine aM aV mixed Tryz.func44 (by kernel_rfl) rfl (ag rfl) ?_;conv=>whnf
 repeat' (first|(refine⟨_,_,NX _,?_⟩;conv=>whnf)|(refine af (λh=>?_) (λh=>?_) <;> (rw[h];conv=>whnf))|fail)
 all_goals (refine al rfl ?_;simp_all [D.dB,cR];try omega)
theorem ue(x y:Bs):NQ.Fn cx 142 [.str x,.str y] (.d (.int .i64 (Go.Lib.compareBytes x y))) []:=by
 refine eH ⟨_,Tryz.func142,by kernel_rfl,by kernel_rfl⟩ rfl λw vs _ hsz hrep=>?_
 obtain⟨b,hb,rfl⟩:=fm (hrep 0 _ rfl);obtain⟨c,hc,rfl⟩:=fm (hrep 1 _ rfl);rw[wh hsz,hb,hc];exact(ym b c w).mono λe w' ⟨he,hbel⟩=>⟨_,he,hbel ▸ Below.refl _ _,.mkInt _ _⟩
end Go.Proofs.YtodofogcincleaaGreatDoor
set_option maxRecDepth 100000
namespace NP
open NQ Go
def kR(l:List Int):Int:=(l.find? (· != 0)).getD 0
theorem FY{l:List Int}{k:Nat}(h:(List.range k).all (λi=>(l[i]?.getD 0)==0)=true)(hk:l.length<=k):kR l=0:=by
 have:l.find? (· != 0)=none:=by
  rw[List.find?_eq_none];intro x hx;obtain⟨j,hj,rfl⟩:=List.getElem_of_mem hx;have:=ay.1 h j (List.mem_range.2 (by omega));simpa [hj] using this
 rw[kR,this];rfl
theorem FZ{l:List Int}:∀{k:Nat} {x:Int},(List.range k).all (λi=>(l[i]?.getD 0)==0)=true->l[k]? =some x->x≠0->kR l=x:=by
 induction l with
 |nil=>intro k x _ h;simp at h
 |cons a t ih =>
  intro k x h hx h0;cases k with
  |zero=>simp at hx;subst hx;simp[kR,h0]
  |succ k =>
   have ha:a=0:=by have:=ay.1 h 0 (List.mem_range.2 (by omega));simpa using this
   have:=ih (k:=k) (x:=x) (ay.2 λi hi=>by
    have:=ay.1 h (i+1) (List.mem_range.2 (by have:=List.mem_range.1 hi;omega));simpa using this) (by simpa using hx) h0
   simpa [kR,ha] using this
theorem Hq(x y z:Int):kR [x,y,z]=if x=0 then(if y=0 then z else y)else x:=by
 by_cases hx:x=0 <;> by_cases hy:y=0 <;> by_cases hz:z=0 <;> simp[kR,hx,hy,hz]
end NP
namespace Go.Proofs.YtodofogcincleaaGreatDoor
open NQ Go NP Go.RowKit
theorem Ls(s:Bs):NQ.Fn cx 141 [.str s] (.d (.bool (cm s))) []:=by
 refine eH ⟨_,Tryz.func141,by kernel_rfl,by kernel_rfl⟩ rfl λw vs _ hsz hrep=>?_
 obtain⟨b,hb,rfl⟩:=fm (hrep 0 _ rfl);rw[wg hsz,hb];exact(DV b w).mono λe w' ⟨he,hbel⟩=>⟨_,he,hbel ▸ Below.refl _ _,.fe _⟩
theorem Ci(r:xg)(d:Datum):NQ.Fn cx 82 [.agg (Cw r),.agg (aI d)] (.d (.bool (nn r d))) []:=by
 refine aM aV mixed Tryz.func82 (by kernel_rfl) rfl (ag rfl) ?_;conv=>whnf
 repeat' (first|(refine⟨_,_,BT _ _ _,?_⟩;conv=>whnf)|(refine⟨_,_,tO _,?_⟩;conv=>whnf)|(refine⟨_,_,mg _,?_⟩;conv=>whnf)|(refine⟨_,_,Ls _,?_⟩;conv=>whnf)|(refine af (λh=>?_) (λh=>?_) <;> (rw[h];conv=>whnf))|fail)
 all_goals
  refine al rfl ?_;simp only[D.dB,nn,vm]
  simp_all
def jB(n:Int):List D:=[.int .i64 n]
theorem Cu(l:List Int)(hl:l.length<=1000):NQ.Fn cx 108 [.slice 1 (l.map jB)] (.d (.int .i64 (kR l))) []:=by
 refine aM aV mixed Tryz.func108 (by kernel_rfl) rfl (ag rfl) ?_;conv=>whnf
 refine⟨Nat,λk=>⟨[(0,.d (.slice 1 (l.map jB))),(3,.d (.int .i64 0)),(6,.d (.slice 1 (l.map jB))),(7,.d (.int .i64 ((l.map jB).length:Int))),(8,.d (.int .i64 k))],[]⟩,
  λk=>k<=l.length/\(List.range k).all (λi=>(l[i]?.getD 0)==0)=true,λk=>l.length-k,⟨0,⟨by omega,rfl⟩,aF.keep ⟨ae,ae,ae,ae,ae,trivial⟩ trivial⟩,λk ⟨hk,hall⟩=>?_⟩
 conv=>whnf
 refine af (λh1=>?_) (λh1=>?_) <;> (rw[h1];conv=>whnf)
 . have hlt:k<l.length:=by simp at h1;omega
   obtain⟨g,hg⟩:∃g,l[k]? =some g:=⟨_,aj hlt⟩
   refine⟨aw k,jB g,aD hg,?_⟩
   conv=>whnf
   refine af (λh=>?_) (λh=>?_) <;> (rw[h];conv=>whnf)
   . refine al rfl ?_;rw[FZ hall hg (by simpa using h)];rfl
   . refine⟨k+1,⟨by omega,?_⟩,by(show l.length-(k+1)<l.length-k;omega),aF.keep ⟨ae,ae,ae,ae,⟨an (by omega),rfl⟩,trivial⟩ trivial⟩;rw[dw,hall,hg];simpa using h
 . refine al rfl ?_;rw[FY hall (by simp at h1;omega)];rfl
theorem Af(a b:Datum):NQ.Fn cx 83 [.agg (aI a),.agg (aI b)] (.d (.int .i64 (eU a b))) []:=by
 refine aM aV mixed Tryz.func83 (by kernel_rfl) rfl (ag rfl) ?_;conv=>whnf
 repeat' (first|(refine⟨(by kernel_rfl:bC _ _=true),?_⟩;conv=>whnf)|(refine⟨_,_,ue _ _,?_⟩;conv=>whnf)|(refine⟨_,_,kI _ _,?_⟩;conv=>whnf)|fail)
 refine⟨_,Cu [_,_,_] (by simp),rfl,?_⟩
 conv=>whnf
 refine al rfl ?_;rw[Hq];rfl
end Go.Proofs.YtodofogcincleaaGreatDoor
namespace NP
open NQ Go
def um(r:xg)(i:Nat)(d p:Datum):Bool:= !nn r d||(decide ((i:Int)>0)&&decide (eU p d>=0))
def vD(r:xg)(l:List Datum)(i:Nat):Bool:=match l[i]?, l[i-1]? with|some d,some p=> !um r i d p|_,_=>false
theorem Dr{r:xg}{l:List Datum}{i:Nat}{d p:Datum}(h1:l[i]? =some d)(h2:l[i-1]? =some p):vD r l i= !um r i d p:=by simp only[vD,h1,h2]
def dG(s:ck):Bool :=
 !((!bc s.name|| !within s.type 1 8|| !within s.life 0 100000)|| !within s.data.length 1 8 ||
  (((sm s.type).single&&((s.data.length:Int) != 1))||(jO s.name&& !(sm s.type).Kl)))&&(List.range s.data.length).all (vD (sm s.type) s.data)
end NP
namespace Go.Proofs.YtodofogcincleaaGreatDoor
open NQ Go NP Go.RowKit
theorem JB{t:Int}(h:within t 1 8=true):0<=t/\t<9/\ ∃rest,va.drop (t.toNat*8)=Cw (sm t)++rest:=by
 simp[within]at h;refine⟨by omega,by omega,?_⟩;have:t=1\/t=2\/t=3\/t=4\/t=5\/t=6\/t=7\/t=8:=by omega
 rcases this with rfl|rfl|rfl|rfl|rfl|rfl|rfl|rfl <;> exact⟨_,rfl⟩
theorem lP(s:ck):NQ.Fn cx 37 [.agg (bJ s)] (.d (.bool (dG s))) []:=by
 refine aM aV mixed Tryz.func37 (by kernel_rfl) rfl (ag rfl) ?_;conv=>whnf
 repeat' (first|(refine⟨_,_,BT _ _ _,?_⟩;conv=>whnf)|(refine⟨_,_,mg _,?_⟩;conv=>whnf)|(refine af (λh=>?_) (λh=>?_) <;> (rw[h];conv=>whnf))|(refine al rfl ?_;show AV.d (D.bool false)=_;(try simp only[ao]at *);simp only[dG, *, if_true,if_false,aK];done)|fail)
 have ht:within s.type 1 8=true:=by simp_all
 obtain⟨t1,t2,rest,hrest⟩:=JB ht;refine⟨t1,t2,?_⟩;show ig (some (AV.d (.ptr (va.drop (s.type.toNat*8))))) _
 rw[hrest];generalize hr:sm s.type=r
 conv=>whnf
 repeat' (first|(refine⟨_,_,tO _,?_⟩;conv=>whnf)|(refine af (λh=>?_) (λh=>?_) <;> (rw[h];conv=>whnf))|(refine al rfl ?_;show AV.d (D.bool false)=_;(try simp only[ao]at *);simp only[dG, *, if_true,if_false,aK];done)|fail)
 all_goals
  have hn:s.data.length<=8:=by simp[within]at *; omega
  have hyes:dG s=(List.range s.data.length).all (vD r s.data):=by
   simp only[ao]at *;simp only[dG, *, if_true,if_false,aK]
  refine⟨Nat,λk=>⟨[(1,.ptr 1 0),(3,.ptr 3 0),(50,.d (.slice 3 (s.data.map aI))),(51,.d (.int .i64 ((s.data.map aI).length:Int))),(52,.d (.int .i64 k))],[(1,.box ((bJ s).map .d)),(3,.box ((Cw r).map .d))]⟩,
   λk=>k<=s.data.length/\(List.range k).all (vD r s.data)=true,λk=>s.data.length-k,⟨0,⟨by omega,rfl⟩,aF.keep ⟨ae,ae,ae,ae,ae,trivial⟩ ⟨ae,⟨(by first|rfl|(show some (Blk.box [_,_,_,_,_,_,_,_])=_;simp only[Cw,List.map_cons,List.map_nil, *])),rfl⟩,trivial⟩⟩,λk ⟨hk,hall⟩=>?_⟩
  conv=>whnf
  refine af (λh1=>?_) (λh1=>?_) <;> (rw[h1];conv=>whnf)
  . have hlt:k<s.data.length:=by simp at h1;omega
    obtain⟨g,hg⟩:∃g,s.data[k]? =some g:=⟨_,aj hlt⟩
    obtain⟨p,hp⟩:∃p,s.data[k-1]? =some p:=⟨_,aj (by omega)⟩
    have hat:=Dr (r:=r) hg hp;have hno:vD r s.data k=false->dG s=false:=λhh=>by rw[hyes,de hlt hh]
    refine⟨aw k,aI g,aD hg,?_⟩
    conv=>whnf
    repeat' (first
     |(refine⟨(by kernel_rfl:bC _ _=true),?_⟩;conv=>whnf)
     |(refine⟨_,_,Ci r g,?_⟩;conv=>whnf)
     |(refine⟨_,_,Af p g,?_⟩;conv=>whnf)
     |(refine af (λh=>?_) (λh=>?_) <;> (rw[h];conv=>whnf))
     |(refine⟨(ml (by assumption) (by omega)).1,aI p,kO (by assumption) (by omega) hp,?_⟩;conv=>whnf)
     |fail)
    all_goals first
     |(refine al rfl ?_;show AV.d (D.bool false)=_;rw[hno (by rw[hat];simp only[um, *, if_true,if_false,aK])])
     |(refine⟨k+1,⟨by omega,?_⟩,by(show s.data.length-(k+1)<s.data.length-k;omega),aF.keep ⟨ae,ae,ae,ae,⟨an (by omega),rfl⟩,trivial⟩ ⟨ae,ae,trivial⟩⟩;rw[dw,hall,hat];simp only[um, *, if_true,if_false,aK])
     |fail
  . refine al rfl ?_;obtain rfl:k=s.data.length:=by simp at h1;omega
    show AV.d (D.bool true)=_
    rw[hyes,hall]
end Go.Proofs.YtodofogcincleaaGreatDoor
namespace NP
open NQ Go
def qA(a:Bs)(s:Int)(b:Bs)(t:Int):Int:=if a=b then cR s t else(ej a b).1
def fits(t:Int)(ap:Bool):Bool:=if t=3\/t=6 then !ap else if t=4\/t=7 then ap else true
def zo(i:Nat)(apex:Bs)(g f p:Sig):Bool :=
 !(g.zone==apex)||decide (g.key<1)||decide (g.key>1000000)||decide (g.alg<1)||decide (g.alg>3)||(decide (g.since<0)||decide (g.since>g.till)||decide (g.till>20000000)) ||
  (decide ((i:Int)>0)&&(g.since != f.since||g.till != f.till||decide (g.key<=p.key)))
def wa(l:List Sig)(apex:Bs)(i:Nat):Bool :=
 match l[i]?, l[0]?, l[i-1]? with
 |some g,some f,some p=> !zo i apex g f p
 |_,_,_=>false
theorem OQ{l:List Sig}{apex:Bs}{k:Nat}{g f p:Sig}(hg:l[k]? =some g)(hf:l[0]? =some f)(hp:l[k-1]? =some p):wa l apex k= !zo k apex g f p:=by
 simp only[wa,hg,hf,hp]
def kP(l:List Sig)(apex:Bs):Bool:= !decide ((l.length:Int)>6)&&(List.range l.length).all (wa l apex)
end NP
namespace Go.Proofs.YtodofogcincleaaGreatDoor
open NQ Go NP Go.RowKit
theorem pM(a:Bs)(s:Int)(b:Bs)(t:Int):NQ.Fn cx 143 [.str a,.int .i64 s,.str b,.int .i64 t] (.d (.int .i64 (qA a s b t))) []:=by
 refine aM aV mixed Tryz.func143 (by kernel_rfl) rfl (ag rfl) ?_;conv=>whnf
 repeat' (first|(refine af (λh=>?_) (λh=>?_) <;> (rw[h];conv=>whnf))|(refine⟨_,_,xU _ _,?_⟩;conv=>whnf)|(refine⟨_,_,kI _ _,?_⟩;conv=>whnf)|fail)
 all_goals (refine al rfl ?_;simp_all [D.dB,qA])
theorem FC(t:Int)(ap:Bool):NQ.Fn cx 145 [.int .i64 t,.bool ap] (.d (.bool (fits t ap))) []:=by
 refine aM aV mixed Tryz.func145 (by kernel_rfl) rfl (ag rfl) ?_;conv=>whnf
 repeat' (first|(refine af (λh=>?_) (λh=>?_) <;> (rw[h];conv=>whnf))|fail)
 all_goals (refine al rfl ?_;simp_all [D.dB,fits])
theorem Lo(l:List Sig)(apex:Bs):NQ.Fn cx 146 [.slice 6 (l.map lH),.str apex] (.d (.bool (kP l apex))) []:=by
 refine aM aV mixed Tryz.func146 (by kernel_rfl) rfl (ag rfl) ?_;conv=>whnf
 refine af (λh=>?_) (λh=>?_) <;> (rw[h];conv=>whnf)
 . (refine al rfl ?_;show AV.d (D.bool false)=_;(try simp only[ao]at *);simp only[kP, *, if_true,if_false,aK];done)
 . have hl:l.length<=6:=by simp at h;omega
   have hyes:kP l apex=(List.range l.length).all (wa l apex):=by
    simp only[ao]at h;simp only[kP,h,if_true,if_false,aK]
   refine⟨Nat,λk=>⟨[(0,.d (.slice 6 (l.map lH))),(1,.d (.str apex)),(10,.d (.slice 6 (l.map lH))),(11,.d (.int .i64 ((l.map lH).length:Int))),(12,.d (.int .i64 k))],[]⟩,λk=>k<=l.length/\(List.range k).all (wa l apex)=true,λk=>l.length-k,⟨0,⟨by omega,rfl⟩,aF.keep ⟨ae,ae,ae,ae,ae,trivial⟩ trivial⟩,λk ⟨hk,hall⟩=>?_⟩
   conv=>whnf
   refine af (λh1=>?_) (λh1=>?_) <;> (rw[h1];conv=>whnf)
   . have hlt:k<l.length:=by simp at h1;omega
     obtain⟨g,hg⟩:∃g,l[k]? =some g:=⟨_,aj hlt⟩
     obtain⟨f,hf⟩:∃f,l[0]? =some f:=⟨_,aj (by omega)⟩
     obtain⟨p,hp⟩:∃p,l[k-1]? =some p:=⟨_,aj (by omega)⟩
     have hat:=OQ (apex:=apex) hg hf hp;have hno:wa l apex k=false->kP l apex=false:=λhh=>by rw[hyes,de hlt hh]
     refine⟨aw k,lH g,aD hg,?_⟩
     conv=>whnf
     repeat' (first
      |(refine af (λh=>?_) (λh=>?_) <;> (rw[h];conv=>whnf))
      |(refine⟨(by kernel_rfl:bC _ _=true),?_⟩;conv=>whnf)
      |(refine⟨(by decide:(0:Int)<=0),lH f,aD hf,?_⟩;conv=>whnf)
      |(refine⟨(ml (by assumption) (by omega)).1,lH p,kO (by assumption) (by omega) hp,?_⟩;conv=>whnf)
      |fail)
     all_goals first
      |(refine al rfl ?_;show AV.d (D.bool false)=_;rw[hno (by rw[hat];simp only[zo, *, if_true,if_false,aK])])
      |(refine⟨k+1,⟨by omega,?_⟩,by(show l.length-(k+1)<l.length-k;omega),aF.keep ⟨ae,ae,ae,ae,⟨an (by omega),rfl⟩,trivial⟩ trivial⟩;rw[dw,hall,hat];simp only[zo, *, if_true,if_false,aK])
      |fail
   . refine al rfl ?_;obtain rfl:k=l.length:=by simp at h1;omega
     show AV.d (D.bool true)=_
     rw[hyes,hall]
theorem DB(s:Signed)(q:dz):NQ.Fn cx 206 [.agg (ak s),.agg (oC q)] (.d (.int .i64 (qA s.set.name s.set.type q.name q.type))) []:=by
 refine aM aV mixed Tryz.func206 (by kernel_rfl) rfl (ag rfl) ?_;conv=>whnf
 (refine⟨_,_,pM _ _ _ _,?_⟩;conv=>whnf)
 exact al rfl rfl
end Go.Proofs.YtodofogcincleaaGreatDoor
namespace NP
open NQ Go
def plc(s:Signed)(q:dz):Int:=qA s.set.name s.set.type q.name q.type
def Split(l:List Signed)(q:dz)(c:Nat):Prop:=c<=l.length/\(∀i s,l[i]? =some s->i<c->plc s q<0)/\(∀i s,l[i]? =some s->c<=i->0<=plc s q)
def foundAt(l:List Signed)(q:dz)(c:Nat):Bool:=match l[c]? with|some s=>plc s q==0|none=>false
theorem LH{i j:Nat}(h:i+j<=1000000000):IntKind.i64.wrap ((IntKind.u64.wrap (IntKind.i64.wrap ((i:Int)+(j:Int)))).fdiv (2 ^ min (Int.toNat 1) IntKind.u64.bits))=(((i+j) / 2:Nat):Int):=by
 rw[show((2:Int) ^ min (Int.toNat 1) IntKind.u64.bits)=2 from rfl];have h1:IntKind.i64.wrap ((i:Int)+(j:Int))=((i+j:Nat):Int):=by rw[wrap_i64 (by omega) (by omega)];omega
 have h2:IntKind.u64.wrap ((i+j:Nat):Int)=((i+j:Nat):Int):=by simp[IntKind.wrap,IntKind.signed,IntKind.bits];omega
 rw[h1,h2,Int.fdiv_eq_ediv_of_nonneg _ (by decide),wrap_i64 (by omega) (by omega)];omega
end NP
namespace Go.Proofs.YtodofogcincleaaGreatDoor
open NQ Go NP Go.RowKit
theorem Mc(l:List Signed)(q:dz)(c:Nat)(hl:l.length<=100000)(hc:Split l q c) :
 NQ.Fn cx 205 [.slice 5 (l.map ak),.agg (oC q),.fn 206 [] []] (.tuple [.d (.int .i64 c),.d (.bool (foundAt l q c))]) []:=by
 refine aM aV mixed Tryz.func205 (by kernel_rfl) rfl (ag rfl) ?_;conv=>whnf
 refine⟨Nat×Nat,λx=>⟨[(0,.d (.slice 5 (l.map ak))),(2,.d (.fn 206 [] [])),(4,.ptr 4 0),(8,.d (.int .i64 ((l.map ak).length:Int))),(9,.d (.int .i64 x.1)),(10,.d (.int .i64 x.2))],[(4,.box ((oC q).map .d))]⟩,
  λx=>x.1<=c/\c<=x.2/\x.2<=l.length,λx=>x.2-x.1,⟨(0,l.length),⟨by omega,hc.1,by omega⟩,aF.keep ⟨ae,ae,ae,ae,ae,⟨(by show AV.d (D.int _ _)=_;simp),rfl⟩,trivial⟩ ⟨ae,trivial⟩⟩,λ⟨i,j⟩ ⟨h1,h2,h3⟩=>?_⟩
 dsimp only at h1 h2 h3 ⊢
 conv=>whnf
 refine af (λh=>?_) (λh=>?_) <;> (rw[h];conv=>whnf)
 . have hij:i<j:=by simp at h;omega
   (refine⟨(by kernel_rfl:bC _ _=true),?_⟩;conv=>whnf)
   rw[LH (by omega)];obtain⟨s,hs⟩:∃s,l[(i+j) / 2]? =some s:=⟨_,aj (by omega)⟩
   refine⟨aw _,ak s,aD hs,?_⟩
   conv=>whnf
   (refine⟨_,_,DB s q,?_⟩;conv=>whnf)
   refine af (λh=>?_) (λh=>?_) <;> (rw[h];conv=>whnf)
   . have hlt:(i+j) / 2<c:=by
      rcases Nat.lt_or_ge ((i+j) / 2) c with hh|hh
      . exact hh
      . have:=hc.2.2 _ s hs hh;simp[plc]at h this;omega
     exact⟨((i+j) / 2+1,j),⟨by dsimp only;omega,h2,h3⟩,by dsimp only;omega,aF.keep ⟨ae,ae,ae,ae,⟨an (by omega),rfl⟩,ae,trivial⟩ ⟨ae,trivial⟩⟩
   . have hge:c<=(i+j) / 2:=by
      rcases Nat.lt_or_ge ((i+j) / 2) c with hh|hh
      . have:=hc.2.1 _ s hs hh;simp[plc]at h this;omega
      . exact hh
     exact⟨(i,(i+j) / 2),⟨h1,hge,by dsimp only;omega⟩,by dsimp only;omega,aF.keep ⟨ae,ae,ae,ae,ae,ae,trivial⟩ ⟨ae,trivial⟩⟩
 . obtain rfl:i=c:=by simp at h;omega
   clear h
   (refine⟨(by kernel_rfl:bC _ _=true),?_⟩;conv=>whnf)
   refine af (λh=>?_) (λh=>?_) <;> (rw[h];conv=>whnf)
   . have hlt:i<l.length:=by simp at h;omega
     obtain⟨s,hs⟩:∃s,l[i]? =some s:=⟨_,aj hlt⟩
     refine⟨aw _,ak s,aD hs,?_⟩
     conv=>whnf
     (refine⟨_,_,DB s q,?_⟩;conv=>whnf)
     refine al rfl ?_;show AV.tuple [AV.d (.int .i64 i),AV.d (.bool _)]=_
     simp[foundAt,plc,hs]
   . refine al rfl ?_;show AV.tuple [AV.d (.int .i64 i),AV.d (.bool _)]=_
     have:l[i]? =none:=by simp at h;simp;omega
     simp[foundAt,this]
theorem Qk(z:aB)(q:dz)(c:Nat)(hl:z.sets.length<=100000)(hc:Split z.sets q c) :
 NQ.Fn cx 144 [.agg (aG z),.agg (oC q)] (.tuple [.d (.int .i64 c),.d (.bool (foundAt z.sets q c))]) []:=by
 refine aM aV mixed Tryz.func144 (by kernel_rfl) rfl (ag rfl) ?_;conv=>whnf
 (refine⟨_,_,Mc z.sets q c hl hc,?_⟩;conv=>whnf)
 exact al rfl rfl
end Go.Proofs.YtodofogcincleaaGreatDoor
namespace NP
open NQ Go
def lO(apex:Bs)(i:Nat)(s p:Signed):Bool:= !dG s.set|| !(bl s.set.name apex).1||(!((i:Int)==0)&&decide (qA p.set.name p.set.type s.set.name s.set.type>=0))
def qR(z:aB)(i:Nat):Bool:=match z.sets[i]?, z.sets[i-1]? with|some s,some p=> !lO z.apex i s p|_,_=>false
theorem qg{z:aB}{i:Nat}{s p:Signed}(h1:z.sets[i]? =some s)(h2:z.sets[i-1]? =some p):qR z i= !lO z.apex i s p:=by simp only[qR,h1,h2]
def ordered(z:aB):Bool:= !((!bc z.apex||jO z.apex)||decide ((z.sets.length:Int)>20000))&&(List.range z.sets.length).all (qR z)
theorem GY{k:Nat}(h:((k:Int)==0)=false):decide ((k:Int)>0)=true:=by simp at h ⊢;omega
end NP
namespace Go.Proofs.YtodofogcincleaaGreatDoor
open NQ Go NP Go.RowKit
theorem Gm(s:Bs):Go.Lib.hasPrefix s [42]=jO s:=by
 unfold Go.Lib.hasPrefix jO;cases s with
 |nil=>rfl
 |cons c t=>simp only[List.isPrefixOf,List.head?_cons];rw[Bool.eq_iff_iff];simp;exact eq_comm
theorem Hz(s:Bs):NQ.Fn cx 95 [.str s,.str [42]] (.d (.bool (jO s))) []:=by
 refine eH ⟨_,Tryz.func95,by kernel_rfl,by kernel_rfl⟩ rfl λw vs _ hsz hrep=>?_
 obtain⟨b,hb,rfl⟩:=fm (hrep 0 _ rfl);obtain⟨c,hc,hc'⟩:=fm (hrep 1 _ rfl);rw[wh hsz,hb,hc];refine(Tryz.strings_HasPrefix _ _ _).mono ?_;rintro e w' ⟨rfl,rfl⟩;rw[hc',Gm];exact⟨_,rfl,Below.refl _ _,.fe _⟩
theorem Jr(z:aB):NQ.Fn cx 84 [.agg (aG z)] (.d (.bool (ordered z))) []:=by
 refine aM aV mixed Tryz.func84 (by kernel_rfl) rfl (ag rfl) ?_;conv=>whnf
 repeat' (first|(refine⟨_,_,mg _,?_⟩;conv=>whnf)|(refine⟨_,_,Hz _,?_⟩;conv=>whnf)|(refine af (λh=>?_) (λh=>?_) <;> (rw[h];conv=>whnf))|(refine al rfl ?_;show AV.d (D.bool false)=_;(try simp only[ao]at *);simp only[ordered, *, if_true,if_false,aK];done)|fail)
 have hn:z.sets.length<=20000:=by simp at *; omega
 have hyes:ordered z=(List.range z.sets.length).all (qR z):=by
  simp only[ao]at *;simp only[ordered, *, if_true,if_false,aK]
 refine⟨Nat,λk=>⟨[(1,.ptr 1 0),(28,.d (.slice 5 (z.sets.map ak))),(29,.d (.int .i64 ((z.sets.map ak).length:Int))),(30,.d (.int .i64 k))],[(1,.box ((aG z).map .d))]⟩,
  λk=>k<=z.sets.length/\(List.range k).all (qR z)=true,λk=>z.sets.length-k,⟨0,⟨by omega,rfl⟩,aF.keep ⟨ae,ae,ae,ae,trivial⟩ ⟨ae,trivial⟩⟩,λk ⟨hk,hall⟩=>?_⟩
 conv=>whnf
 refine af (λh1=>?_) (λh1=>?_) <;> (rw[h1];conv=>whnf)
 . have hlt:k<z.sets.length:=by simp at h1;omega
   obtain⟨s,hs⟩:∃s,z.sets[k]? =some s:=⟨_,aj hlt⟩
   obtain⟨p,hp⟩:∃p,z.sets[k-1]? =some p:=⟨_,aj (by omega)⟩
   have hat:=qg hs hp;have hno:qR z k=false->ordered z=false:=λhh=>by rw[hyes,de hlt hh]
   refine⟨aw k,ak s,aD hs,?_⟩
   conv=>whnf
   repeat' (first
    |(refine⟨_,_,lP s.set,?_⟩;conv=>whnf)
    |(refine⟨_,_,nu _ _,?_⟩;conv=>whnf)
    |(refine⟨_,_,pM _ _ _ _,?_⟩;conv=>whnf)
    |(refine af (λh=>?_) (λh=>?_) <;> (rw[h];conv=>whnf))
    |(refine⟨(by kernel_rfl:bC _ _=true),?_⟩;conv=>whnf)
    |(refine⟨(ml (GY (by assumption)) (by omega)).1,ak p,kO (GY (by assumption)) (by omega) hp,?_⟩;conv=>whnf)
    |fail)
   all_goals first
    |(refine al rfl ?_;show AV.d (D.bool false)=_;rw[hno (by rw[hat];simp only[lO, *, if_true,if_false,aK])])
    |(refine⟨k+1,⟨by omega,?_⟩,by(show z.sets.length-(k+1)<z.sets.length-k;omega),aF.keep ⟨ae,ae,ae,⟨an (by omega),rfl⟩,trivial⟩ ⟨ae,trivial⟩⟩;rw[dw,hall,hat];simp only[lO, *, if_true,if_false,aK])
    |fail
 . refine al rfl ?_;obtain rfl:k=z.sets.length:=by simp at h1;omega
   show AV.d (D.bool true)=_
   rw[hyes,hall]
end Go.Proofs.YtodofogcincleaaGreatDoor
namespace NP
open NQ Go
def qE(z:aB)(i:Nat):Bool:=match z.sets[i]? with|some s=>fits s.set.type (s.set.name==z.apex)|none=>false
def oU(has:Int->Bool)(z:aB):Bool:=has 4&&has 2&&(List.range z.sets.length).all (qE z)
end NP
namespace Go.Proofs.YtodofogcincleaaGreatDoor
open NQ Go NP Go.RowKit
theorem CQ(z:aB)(hn:z.sets.length<=100000)(pos:Int->Nat)(has:Int->Bool)(hf:∀t,NQ.Fn cx 144 [.agg (aG z),.agg (oC ⟨z.apex,t⟩)] (.tuple [.d (.int .i64 (pos t)),.d (.bool (has t))]) []) :
 NQ.Fn cx 85 [.agg (aG z)] (.d (.bool (oU has z))) []:=by
 refine aM aV mixed Tryz.func85 (by kernel_rfl) rfl (ag rfl) ?_;conv=>whnf
 refine⟨Nat,λk=>⟨[(1,.ptr 1 0),(9,.own 9),(10,.d (.int .i64 2)),(11,.d (.int .i64 k))],[(1,.box ((aG z).map .d)),(9,.row 3 1 [[.int .i64 4],[.int .i64 2]])]⟩,
  λk=>k<=2/\(0<k->has 4=true)/\(1<k->has 2=true),λk=>2-k,⟨0,⟨by omega,by omega,by omega⟩,aF.keep ⟨ae,ae,ae,ae,trivial⟩ ⟨ae,ae,trivial⟩⟩,λk ⟨hk,ha,hb⟩=>?_⟩
 conv=>whnf
 refine af (λh1=>?_) (λh1=>?_) <;> (rw[h1];conv=>whnf)
 . have hlt:k<2:=by simp at h1;omega
   have hk2:k=0\/k=1:=by omega
   rcases hk2 with rfl|rfl
   . refine⟨by decide,by decide,?_⟩
     conv=>whnf
     refine⟨[.int .i64 4],rfl,?_⟩
     conv=>whnf
     (refine⟨_,_,hf 4,?_⟩;conv=>whnf)
     refine af (λh=>?_) (λh=>?_) <;> (rw[h];conv=>whnf)
     . refine al rfl ?_;have h4:has 4=false:=by simpa using h
       simp[D.dB,oU,h4]
     . exact⟨1,⟨by omega,λ_=>by simpa using h,by omega⟩,by decide,aF.keep ⟨ae,ae,ae,⟨an (by omega),rfl⟩,trivial⟩ ⟨ae,ae,trivial⟩⟩
   . refine⟨by decide,by decide,?_⟩
     conv=>whnf
     refine⟨[.int .i64 2],rfl,?_⟩
     conv=>whnf
     (refine⟨_,_,hf 2,?_⟩;conv=>whnf)
     refine af (λh=>?_) (λh=>?_) <;> (rw[h];conv=>whnf)
     . refine al rfl ?_;have h4:has 2=false:=by simpa using h
       simp[D.dB,oU,h4]
     . exact⟨2,⟨by omega,λ_=>ha (by omega),λ_=>by simpa using h⟩,by decide,aF.keep ⟨ae,ae,ae,⟨an (by omega),rfl⟩,trivial⟩ ⟨ae,ae,trivial⟩⟩
 . have h2:k=2:=by simp at h1;omega
   have h4:=ha (by omega);have h5:=hb (by omega);have hyes:oU has z=(List.range z.sets.length).all (qE z):=by simp only[oU,h4,h5,if_true,if_false,aK]
   clear h1 ha hb;refine⟨Nat,λk=>⟨[(1,.ptr 1 0),(30,.d (.slice 5 (z.sets.map ak))),(31,.d (.int .i64 ((z.sets.map ak).length:Int))),(32,.d (.int .i64 k))],[(1,.box ((aG z).map .d))]⟩,
    λk=>k<=z.sets.length/\(List.range k).all (qE z)=true,λk=>z.sets.length-k,⟨0,⟨by omega,rfl⟩,aF.keep ⟨ae,ae,ae,ae,trivial⟩ ⟨ae,trivial⟩⟩,λk ⟨hk,hall⟩=>?_⟩
   conv=>whnf
   refine af (λh1=>?_) (λh1=>?_) <;> (rw[h1];conv=>whnf)
   . have hlt:k<z.sets.length:=by simp at h1;omega
     obtain⟨s,hs⟩:∃s,z.sets[k]? =some s:=⟨_,aj hlt⟩
     have hat:qE z k=fits s.set.type (s.set.name==z.apex):=by simp only[qE,hs]
     have hno:qE z k=false->oU has z=false:=λhh=>by rw[hyes,de hlt hh]
     refine⟨aw k,ak s,aD hs,?_⟩
     conv=>whnf
     repeat' (first|(refine⟨_,_,FC _ _,?_⟩;conv=>whnf)|(refine af (λh=>?_) (λh=>?_) <;> (rw[h];conv=>whnf))|(refine⟨(by kernel_rfl:bC _ _=true),?_⟩;conv=>whnf)|fail)
     all_goals first
      |(refine al rfl ?_;show AV.d (D.bool false)=_;rw[hno (by rw[hat];simp_all)])
      |(refine⟨k+1,⟨by omega,?_⟩,by(show z.sets.length-(k+1)<z.sets.length-k;omega),aF.keep ⟨ae,ae,ae,⟨an (by omega),rfl⟩,trivial⟩ ⟨ae,trivial⟩⟩;rw[dw,hall,hat];simp_all)
      |fail
   . refine al rfl ?_;obtain rfl:k=z.sets.length:=by simp at h1;omega
     show AV.d (D.bool true)=_
     rw[hyes,hall]
end Go.Proofs.YtodofogcincleaaGreatDoor
namespace NP
open NQ Go
def bt(s:Bs):List D:=[.str s]
def rA(z:aB)(b:List Bs):List D:=[.str z.apex,.slice 5 (z.sets.map ak),.slice 1 (b.map bt)]
def tV(n i:Nat)(s p x:Signed):Bool :=
 !(s.set.type != 3)&&((decide ((i:Int)>0)&&(p.set.name==s.set.name))||(decide (((i:Nat):Int)+1<(n:Int))&&(x.set.name==s.set.name)&&(x.set.type != 8)))
def nO(z:aB)(i:Nat):Bool :=
 match z.sets[i]? with
 |some s=> !tV z.sets.length i s ((z.sets[i-1]?).getD s) ((z.sets[i+1]?).getD s)
 |none=>false
def aliases(z:aB):Bool:=(List.range z.sets.length).all (nO z)
def pN(s:Signed)(b:Bs):Bool :=
 if (b==[])=true then s.set.type==6
 else if (b==s.set.name)=true then(s.set.type != 2)&&(s.set.type != 6)&&(s.set.type != 8)&&(s.set.type != 1)
 else s.set.type != 1
def cutAt(z:aB)(b:List Bs)(i:Nat):Bool:=match z.sets[i]?, b[i]? with|some s,some x=> !pN s x|_,_=>false
def sK(z:aB)(b:List Bs):Bool:=(List.range z.sets.length).all (cutAt z b)
def qj(s:Signed)(b:Bs):Bool:=(!(b==[])&&((s.set.type==2)||(s.set.type==1)))&&decide ((s.sigs.length:Int)>0)
def tz(z:aB)(b:List Bs)(i:Nat):Bool:=match z.sets[i]?, b[i]? with|some s,some x=> !qj s x|_,_=>false
def tA(z:aB)(b:List Bs):Bool:=(List.range z.sets.length).all (tz z b)
def nR(z:aB)(i:Nat):Bool:=match z.sets[i]? with|some s=>kP s.sigs z.apex|none=>false
def qF(z:aB):Bool:=(List.range z.sets.length).all (nR z)
theorem wrap_add{k:Nat}(hk:k<=4611686018427387904):IntKind.i64.wrap ((k:Int)+1)=(k:Int)+1:=wrap_i64 (by omega) (by omega)
theorem Ow{α:Type}{f:α->List D}{l:List α}{k:Nat}{g:α}(hg:l[k+1]? =some g):(l.map f)[((k:Int)+1).toNat]? =some (f g):=by
 rw[show((k:Int)+1).toNat=k+1 by omega];simp[hg]
end NP
namespace Go.Proofs.YtodofogcincleaaGreatDoor
open NQ Go NP Go.RowKit
theorem zV(z:aB)(b:List Bs)(hn:z.sets.length<=100000):NQ.Fn cx 87 [.agg (rA z b)] (.d (.bool (aliases z))) []:=by
 refine aM aV mixed Tryz.func87 (by kernel_rfl) rfl (ag rfl) ?_;conv=>whnf
 have hyes:aliases z=(List.range z.sets.length).all (nO z):=rfl;refine⟨Nat,λk=>⟨[(1,.ptr 1 0),(8,.d (.slice 5 (z.sets.map ak))),(9,.d (.int .i64 ((z.sets.map ak).length:Int))),(10,.d (.int .i64 k))],[(1,.box ((rA z b).map .d))]⟩,λk=>k<=z.sets.length/\(List.range k).all (nO z)=true,λk=>z.sets.length-k,⟨0,⟨by omega,rfl⟩,aF.keep ⟨ae,ae,ae,ae,trivial⟩ ⟨ae,trivial⟩⟩,λk ⟨hk,hall⟩=>?_⟩;(conv=>whnf);refine af (λh1=>?_) (λh1=>?_) <;> (rw[h1];conv=>whnf)
 . have hlt:k<z.sets.length:=by simp at h1;omega
   obtain⟨s,hs⟩:∃s,z.sets[k]? =some s:=⟨_,aj hlt⟩
   obtain⟨p,hp⟩:∃p,z.sets[k-1]? =some p:=⟨_,aj (by omega)⟩
   obtain⟨x,hx⟩:∃x,x=(z.sets[k+1]?).getD s:=⟨_,rfl⟩
   have hat:nO z k= !tV z.sets.length k s p x:=by simp only[nO,hs,hp,Option.getD_some, <- hx]
   have hno:nO z k=false->aliases z=false:=λhh=>by rw[hyes,de hlt hh]
   have hxx:k+1<z.sets.length->z.sets[k+1]? =some x:=λhq=>by rw[hx,aj hq];rfl
   clear hx;have hw:=wrap_add (k:=k) (by omega);refine⟨aw k,ak s,aD hs,?_⟩
   conv=>whnf
   repeat' (first
    |(refine⟨(by kernel_rfl:bC _ _=true),?_⟩;conv=>whnf)
    |(refine al rfl ?_;show AV.d (D.bool false)=_;(try simp only[ao]at *);rw[hno (by rw[hat];simp only[tV, *, if_true,if_false,aK])];done)
    |(refine⟨k+1,⟨by omega,?_⟩,by(show z.sets.length-(k+1)<z.sets.length-k;omega),aF.keep ⟨ae,ae,ae,⟨an (by omega),rfl⟩,trivial⟩ ⟨ae,trivial⟩⟩;rw[dw,hall,hat];((try simp only[ao]at *);simp only[tV, *, if_true,if_false,aK];done))
    |(rw[hw];(refine af (λh=>?_) (λh=>?_) <;> (rw[h];conv=>whnf)))
    |(refine af (λh=>?_) (λh=>?_) <;> (rw[h];conv=>whnf))
    |(refine⟨(ml (by assumption) (by omega)).1,ak p,kO (by assumption) (by omega) hp,?_⟩;conv=>whnf)
    |(rw[hw];refine⟨by omega,ak x,Ow (by have hq:= ‹decide (((k:Nat):Int)+1<_)=true›;exact hxx (by simp at hq;omega)),?_⟩;conv=>whnf)
    |fail)
 . (refine al rfl ?_;obtain rfl:k=z.sets.length:=(by simp at h1;omega);show AV.d (D.bool true)=_;rw[hyes,hall])
theorem Fy(z:aB)(b:List Bs)(hn:z.sets.length<=100000)(hb:b.length=z.sets.length):NQ.Fn cx 88 [.agg (rA z b)] (.d (.bool (sK z b))) []:=by
 refine aM aV mixed Tryz.func88 (by kernel_rfl) rfl (ag rfl) ?_;conv=>whnf
 have hyes:sK z b=(List.range z.sets.length).all (cutAt z b):=rfl;refine⟨Nat,λk=>⟨[(1,.ptr 1 0),(9,.d (.slice 5 (z.sets.map ak))),(10,.d (.int .i64 ((z.sets.map ak).length:Int))),(11,.d (.int .i64 k))],[(1,.box ((rA z b).map .d))]⟩,λk=>k<=z.sets.length/\(List.range k).all (cutAt z b)=true,λk=>z.sets.length-k,⟨0,⟨by omega,rfl⟩,aF.keep ⟨ae,ae,ae,ae,trivial⟩ ⟨ae,trivial⟩⟩,λk ⟨hk,hall⟩=>?_⟩;(conv=>whnf);refine af (λh1=>?_) (λh1=>?_) <;> (rw[h1];conv=>whnf)
 . have hlt:k<z.sets.length:=by simp at h1;omega
   obtain⟨s,hs⟩:∃s,z.sets[k]? =some s:=⟨_,aj hlt⟩
   obtain⟨x,hx⟩:∃x,b[k]? =some x:=⟨_,aj (by omega)⟩
   have hat:cutAt z b k= !pN s x:=by simp only[cutAt,hs,hx]
   have hno:cutAt z b k=false->sK z b=false:=λhh=>by rw[hyes,de hlt hh]
   refine⟨aw k,ak s,aD hs,?_⟩
   conv=>whnf
   repeat' (first
    |(refine⟨(by kernel_rfl:bC _ _=true),?_⟩;conv=>whnf)
    |(refine al rfl ?_;show AV.d (D.bool false)=_;(try simp only[ao]at *);rw[hno (by rw[hat];simp only[pN, *, if_true,if_false,aK])];done)
    |(refine⟨k+1,⟨by omega,?_⟩,by(show z.sets.length-(k+1)<z.sets.length-k;omega),aF.keep ⟨ae,ae,ae,⟨an (by omega),rfl⟩,trivial⟩ ⟨ae,trivial⟩⟩;rw[dw,hall,hat];((try simp only[ao]at *);simp only[pN, *, if_true,if_false,aK];done))
    |(refine⟨aw k,bt x,aD hx,?_⟩;conv=>whnf)
    |(refine af (λh=>?_) (λh=>?_) <;> (rw[h];conv=>whnf))
    |fail)
 . (refine al rfl ?_;obtain rfl:k=z.sets.length:=(by simp at h1;omega);show AV.d (D.bool true)=_;rw[hyes,hall])
theorem Ge(z:aB)(b:List Bs)(hn:z.sets.length<=100000)(hb:b.length=z.sets.length):NQ.Fn cx 89 [.agg (rA z b)] (.d (.bool (tA z b))) []:=by
 refine aM aV mixed Tryz.func89 (by kernel_rfl) rfl (ag rfl) ?_;conv=>whnf
 have hyes:tA z b=(List.range z.sets.length).all (tz z b):=rfl;refine⟨Nat,λk=>⟨[(1,.ptr 1 0),(9,.d (.slice 5 (z.sets.map ak))),(10,.d (.int .i64 ((z.sets.map ak).length:Int))),(11,.d (.int .i64 k))],[(1,.box ((rA z b).map .d))]⟩,λk=>k<=z.sets.length/\(List.range k).all (tz z b)=true,λk=>z.sets.length-k,⟨0,⟨by omega,rfl⟩,aF.keep ⟨ae,ae,ae,ae,trivial⟩ ⟨ae,trivial⟩⟩,λk ⟨hk,hall⟩=>?_⟩;(conv=>whnf);refine af (λh1=>?_) (λh1=>?_) <;> (rw[h1];conv=>whnf)
 . have hlt:k<z.sets.length:=by simp at h1;omega
   obtain⟨s,hs⟩:∃s,z.sets[k]? =some s:=⟨_,aj hlt⟩
   obtain⟨x,hx⟩:∃x,b[k]? =some x:=⟨_,aj (by omega)⟩
   have hat:tz z b k= !qj s x:=by simp only[tz,hs,hx]
   have hno:tz z b k=false->tA z b=false:=λhh=>by rw[hyes,de hlt hh]
   refine⟨aw k,ak s,aD hs,?_⟩
   conv=>whnf
   repeat' (first
    |(refine⟨(by kernel_rfl:bC _ _=true),?_⟩;conv=>whnf)
    |(refine al rfl ?_;show AV.d (D.bool false)=_;(try simp only[ao]at *);rw[hno (by rw[hat];simp only[qj, *, if_true,if_false,aK])];done)
    |(refine⟨k+1,⟨by omega,?_⟩,by(show z.sets.length-(k+1)<z.sets.length-k;omega),aF.keep ⟨ae,ae,ae,⟨an (by omega),rfl⟩,trivial⟩ ⟨ae,trivial⟩⟩;rw[dw,hall,hat];((try simp only[ao]at *);simp only[qj, *, if_true,if_false,aK];done))
    |(refine⟨aw k,bt x,aD hx,?_⟩;conv=>whnf)
    |(refine af (λh=>?_) (λh=>?_) <;> (rw[h];conv=>whnf))
    |fail)
 . (refine al rfl ?_;obtain rfl:k=z.sets.length:=(by simp at h1;omega);show AV.d (D.bool true)=_;rw[hyes,hall])
theorem DH(z:aB)(b:List Bs)(hn:z.sets.length<=100000):NQ.Fn cx 90 [.agg (rA z b)] (.d (.bool (qF z))) []:=by
 refine aM aV mixed Tryz.func90 (by kernel_rfl) rfl (ag rfl) ?_;conv=>whnf
 have hyes:qF z=(List.range z.sets.length).all (nR z):=rfl;refine⟨Nat,λk=>⟨[(1,.ptr 1 0),(8,.d (.slice 5 (z.sets.map ak))),(9,.d (.int .i64 ((z.sets.map ak).length:Int))),(10,.d (.int .i64 k))],[(1,.box ((rA z b).map .d))]⟩,λk=>k<=z.sets.length/\(List.range k).all (nR z)=true,λk=>z.sets.length-k,⟨0,⟨by omega,rfl⟩,aF.keep ⟨ae,ae,ae,ae,trivial⟩ ⟨ae,trivial⟩⟩,λk ⟨hk,hall⟩=>?_⟩;(conv=>whnf);refine af (λh1=>?_) (λh1=>?_) <;> (rw[h1];conv=>whnf)
 . have hlt:k<z.sets.length:=by simp at h1;omega
   obtain⟨s,hs⟩:∃s,z.sets[k]? =some s:=⟨_,aj hlt⟩
   have hat:nR z k= !(!kP s.sigs z.apex):=by simp only[nR,hs,ME]
   have hno:nR z k=false->qF z=false:=λhh=>by rw[hyes,de hlt hh]
   refine⟨aw k,ak s,aD hs,?_⟩
   conv=>whnf
   repeat' (first
    |(refine⟨(by kernel_rfl:bC _ _=true),?_⟩;conv=>whnf)
    |(refine al rfl ?_;show AV.d (D.bool false)=_;(try simp only[ao]at *);rw[hno (by rw[hat];simp only[nR, *, if_true,if_false,aK])];done)
    |(refine⟨k+1,⟨by omega,?_⟩,by(show z.sets.length-(k+1)<z.sets.length-k;omega),aF.keep ⟨ae,ae,ae,⟨an (by omega),rfl⟩,trivial⟩ ⟨ae,trivial⟩⟩;rw[dw,hall,hat];((try simp only[ao]at *);simp only[nR, *, if_true,if_false,aK];done))
    |(refine⟨_,_,Lo s.sigs z.apex,?_⟩;conv=>whnf)
    |(refine af (λh=>?_) (λh=>?_) <;> (rw[h];conv=>whnf))
    |fail)
 . (refine al rfl ?_;obtain rfl:k=z.sets.length:=(by simp at h1;omega);show AV.d (D.bool true)=_;rw[hyes,hall])
end Go.Proofs.YtodofogcincleaaGreatDoor
namespace NP
open NQ Go
def jg(apex:Bs)(s:Signed):Bool:=(s.set.type==2)&& !(s.set.name==apex)
def jP(apex:Bs):List Signed->List (Bs×D)->List (Bs×D)
 |[],m=>m
 |s::t,m=>jP apex t (if jg apex s=true then bS s.set.name (.bool true) m else m)
def fc(apex:Bs)(l:List Signed)(n:Bs):Bool:=l.any λs=>jg apex s&&(s.set.name==n)
theorem pr(k n:Bs)(v:D):∀m,bf n (bS k v m)=if n=k then some v else bf n m
 |[]=>by simp only[bS,bf]
 |(k',v')::t=>by
  simp only[bS];by_cases h:k=k'
  . subst h;simp only[if_true,bf];by_cases h2:n=k <;> simp only[h2,if_true,if_false]
  . simp only[h,if_false,bf,pr k n v t];by_cases h2:n=k'
    . subst h2;have h3:¬n=k:=λe=>h e.symm
      simp only[if_true,h3,if_false]
    . simp only[h2,if_false]
theorem wA(apex n:Bs):∀(l:List Signed) (m:List (Bs×D)),bf n (jP apex l m)=if fc apex l n=true then some (.bool true)else bf n m
 |[],m=>by simp[jP,fc]
 |s::t,m=>by
  rw[jP,wA apex n t];by_cases h:jg apex s=true
  . rw[if_pos h,pr];by_cases hn:n=s.set.name
    . subst hn;simp[fc,h]
    . have hn' :(s.set.name==n)=false:=by simpa using λe=>hn e.symm
      simp only[hn,if_false,fc,List.any_cons,h,hn',kZ,iJ]
  . have h' :jg apex s=false:=by simpa using h
    simp only[fc,List.any_cons,h',vy,iJ,eR,if_false]
def kb(cut:Bs->Bool)(c n:Bs):Bs :=
 let c' :=if (!(c==[])&& !(bl n c).1)=true then[]else c
 if ((c' ==[])&&cut n)=true then n else c'
def bh(cut:Bs->Bool):Bs->List Signed->List Bs
 |_,[]=>[]
 |c,s::t=>kb cut c s.set.name::bh cut (kb cut c s.set.name) t
def dh(z:aB):List Bs:=bh (fc z.apex z.sets) [] z.sets
theorem tY(cut:Bs->Bool):∀(c:Bs) (l:List Signed),(bh cut c l).length=l.length
 |_,[]=>rfl
 |c,s::t=>by simp[bh,tY cut _ t]
theorem QY(done:List Bs)(n:Nat)(c:Bs):(done++List.replicate (n+1) []).set done.length c=(done++[c])++List.replicate n []:=by
 rw[List.replicate_succ,List.set_append];simp
theorem wB(apex:Bs)(s:Signed):∀(l:List Signed) (m:List (Bs×D)),jP apex (l++[s]) m=if jg apex s=true then bS s.set.name (.bool true) (jP apex l m)else jP apex l m
 |[],m=>rfl
 |x::t,m=>by rw[List.cons_append,jP,jP,wB apex s t]
theorem bU{α:Type}{l:List α}{k:Nat}{x:α}(h:l[k]? =some x):l.take (k+1)=l.take k++[x]:=by
 rw[List.take_add_one,h];rfl
theorem LN{b:Bool}(h:(!b)=false)(h' :b=false):False:=by subst h';cases h
end NP
namespace Go.Proofs.YtodofogcincleaaGreatDoor
open NQ Go NP Go.RowKit
theorem LC(z:aB)(hn:z.sets.length<=100000):NQ.Fn cx 86 [.agg (aG z)] (.agg ((rA z (dh z)).map .d)) []:=by
 refine aM aV mixed Tryz.func86 (by kernel_rfl) rfl (ag rfl) ?_;conv=>whnf
 refine ⟨Nat, fun k => ⟨[(1, .ptr 1 0), (2, .ptr 2 0), (3, .omap 13), (16, .d (.slice 5 (z.sets.map ak))), (17, .d (.int .i64 ((z.sets.map ak).length : Int))), (18, .d (.int .i64 k))],
     [(1,.box ((aG z).map .d)),(2,.box [.d (.str []),.nil 5,.nil 1]),(13,.smap (jP z.apex (z.sets.take k) []))]⟩,
  λk=>k<=z.sets.length,λk=>z.sets.length-k,⟨0,by omega,aF.keep ⟨ae,ae,ae,ae,ae,ae,trivial⟩ ⟨ae,ae,ae,trivial⟩⟩,λk hk=>?_⟩
 conv=>whnf
 refine af (λh1=>?_) (λh1=>?_) <;> (rw[h1];conv=>whnf)
 . have hlt:k<z.sets.length:=by simp at h1;omega
   obtain⟨s,hs⟩:∃s,z.sets[k]? =some s:=⟨_,aj hlt⟩
   refine⟨aw k,ak s,aD hs,?_⟩
   conv=>whnf
   have hm:=wB z.apex s (z.sets.take k) [];rw[<- bU hs]at hm
   repeat' (first
    |(refine⟨(by kernel_rfl:bC _ _=true),?_⟩;conv=>whnf)
    |(refine⟨k+1,hlt,by(show z.sets.length-(k+1)<z.sets.length-k;omega),aF.keep ⟨ae,ae,ae,ae,ae,⟨an (by omega),rfl⟩,trivial⟩ ⟨ae,ae,⟨?_,rfl⟩,trivial⟩⟩;show some (Blk.smap _)=some (Blk.smap _);rw[hm];simp only[jg, *, if_true,if_false,aK];done)
    |(refine af (λh=>?_) (λh=>?_) <;> (rw[h];conv=>whnf))
    |fail)
 . obtain rfl:k=z.sets.length:=by simp at h1;omega
   (refine⟨(by kernel_rfl:bC _ _=true),?_⟩;conv=>whnf)
   refine⟨by omega,.inl rfl,by omega,by(simp only[ao];omega),by(simp only[ao];omega),?_⟩
   conv=>whnf
   refine ⟨Nat × Bs × List Bs, fun x => ⟨[(1, .ptr 1 0), (2, .ptr 2 0), (3, .omap 13), (6, .ptr 6 0), (7, .d (.str x.2.1)), (49, .d (.slice 5 (z.sets.map ak))), (50, .d (.int .i64 ((z.sets.map ak).length : Int))), (51, .d (.int .i64 x.1))],
       [(1,.box ((aG z).map .d)),(2,.box [.d (.str []),.nil 5,.nil 1]),(13,.smap (jP z.apex z.sets [])),(45,.row 9 1 ((x.2.2++List.replicate (z.sets.length-x.1) []).map bt) true),(6,.box [.d (.str z.apex),.d (.slice 5 (z.sets.map ak)),.own 45])]⟩,
    λx=>x.1<=z.sets.length/\x.2.2.length=x.1/\x.2.2++bh (fc z.apex z.sets) x.2.1 (z.sets.drop x.1)=dh z,λx=>z.sets.length-x.1,
    ⟨(0,[],[]),⟨by simp,rfl,rfl⟩,aF.keep ⟨ae,ae,ae,ae,ae,ae,ae,ae,trivial⟩ ⟨ae,ae,⟨by(show some (Blk.smap (jP z.apex (z.sets.take z.sets.length) []))=_;rw[List.take_length]),rfl⟩,⟨by(show some (Blk.row _ _ (List.replicate ((z.sets.map ak).length:Int).toNat _) true)=some (Blk.row _ _ _ true);simp[bt];done),rfl⟩,ae,trivial⟩⟩,?_⟩
   rintro⟨k,c,done⟩ ⟨hk,hd,hall⟩;simp only at hk hd hall
   conv=>whnf
   refine af (λh1=>?_) (λh1=>?_) <;> (rw[h1];conv=>whnf)
   . have hlt:k<z.sets.length:=by simp at h1;omega
     obtain⟨s,hs⟩:∃s,z.sets[k]? =some s:=⟨_,aj hlt⟩
     refine⟨aw k,ak s,aD hs,?_⟩
     conv=>whnf
     have hdr:z.sets.drop k=s::z.sets.drop (k+1):=by
      obtain⟨hl,he⟩:=aq.mp hs;rw[List.drop_eq_getElem_cons hlt,he]
     have hrow:k<((done++List.replicate (z.sets.length-k) []).map bt).length:=by simp;omega
     have hrep:List.replicate (z.sets.length-k) ([]:Bs)=List.replicate ((z.sets.length-(k+1))+1) []:=by congr 1;omega
     have hset:∀c',((done++List.replicate (z.sets.length-k) []).map bt).set k (bt c')=((done++[c'])++List.replicate (z.sets.length-(k+1)) []).map bt:=λc' =>by
      rw[hrep, <- QY done _ c',List.map_set,hd]
     rw[hdr,bh]at hall;have hgo:∀c',kb (fc z.apex z.sets) c s.set.name=c' ->(done++[c'])++bh (fc z.apex z.sets) c' (z.sets.drop (k+1))=dh z:=λc' e=>by
      rw[<- hall,e,List.append_assoc];rfl
     have hf:=wA z.apex s.set.name z.sets [];clear hall hk;obtain⟨q,hq⟩:∃q,fc z.apex z.sets s.set.name=q:=⟨_,rfl⟩
     rw[hq]at hf;have e0:(⟨#[]⟩:ByteArray).data.toList=[]:=rfl;have hrk:((done++List.replicate (z.sets.length-k) []).map bt)[k]? =some (bt []):=by
      rw[aN,bX (by omega),List.getElem?_replicate,if_pos (by omega)];rfl
     repeat' (first
      |(refine⟨_,_,nu _ _,?_⟩;conv=>whnf)
      |(refine⟨(by kernel_rfl:bC _ _=true),?_⟩;conv=>whnf)
      |(refine af (λh=>?_) (λh=>?_) <;> (rw[h];conv=>whnf))
      |(rcases q with _|_ <;> ((try simp only[eR,if_false,if_true,bf]at hf);rw[hf];conv=>whnf))
      |exact(LN (b:=c==[]) (by assumption) (by assumption)).elim
      |(refine⟨aw k,hrow,?_⟩;conv=>whnf)
      |(refine⟨_,hrk,?_⟩;conv=>whnf)
      |(refine⟨(k+1,c,done++[c]),⟨hlt,by simp[hd],hgo _ (by(try simp only[e0]at *);simp only[kb, *, if_true,if_false,aK,beq_self_eq_true];done)⟩,by(show z.sets.length-(k+1)<z.sets.length-k;omega),aF.keep ⟨ae,ae,ae,ae,ae,ae,ae,⟨an (by omega),rfl⟩,trivial⟩ ⟨ae,ae,ae,⟨by(show some (Blk.row _ _ (List.set _ k (bt (c))) true)=some (Blk.row _ _ _ true);rw[hset]),rfl⟩,ae,trivial⟩⟩;done)
      |(refine⟨(k+1,[],done++[[]]),⟨hlt,by simp[hd],hgo _ (by(try simp only[e0]at *);simp only[kb, *, if_true,if_false,aK,beq_self_eq_true];done)⟩,by(show z.sets.length-(k+1)<z.sets.length-k;omega),aF.keep ⟨ae,ae,ae,ae,ae,ae,ae,⟨an (by omega),rfl⟩,trivial⟩ ⟨ae,ae,ae,⟨by(show some (Blk.row _ _ (List.set _ k (bt ([]))) true)=some (Blk.row _ _ _ true);rw[hset]),rfl⟩,ae,trivial⟩⟩;done)
      |(refine⟨(k+1,s.set.name,done++[s.set.name]),⟨hlt,by simp[hd],hgo _ (by(try simp only[e0]at *);simp only[kb, *, if_true,if_false,aK,beq_self_eq_true];done)⟩,by(show z.sets.length-(k+1)<z.sets.length-k;omega),aF.keep ⟨ae,ae,ae,ae,ae,ae,ae,⟨an (by omega),rfl⟩,trivial⟩ ⟨ae,ae,ae,⟨by(show some (Blk.row _ _ (List.set _ k (bt (s.set.name))) true)=some (Blk.row _ _ _ true);rw[hset]),rfl⟩,ae,trivial⟩⟩;done)
      |fail)
   . refine al rfl ?_;obtain rfl:k=z.sets.length:=by simp at h1;omega
     simp only[List.drop_length,bh,List.append_nil]at hall;show AV.agg [_,_,AV.d (.slice 1 ((done++List.replicate (z.sets.length-z.sets.length) []).map bt))]=_
     rw[Nat.sub_self,List.replicate_zero,List.append_nil,hall];rfl
end Go.Proofs.YtodofogcincleaaGreatDoor
namespace NP
open NQ Go
theorem sF:iO cR where
 range := fun a b => by unfold cR; repeat' split
                        all_goals omega
 zero := fun a b => by unfold cR; repeat' split
                       all_goals omega
 anti := fun a b => by unfold cR; repeat' split
                       all_goals omega
 lt := fun a b c => by unfold cR; repeat' split
                       all_goals omega
theorem cj:iO bD where
 range:=λa b=>nz.range _ _
 zero:=λa b=>⟨λh=>xk ((nz.zero _ _).1 h),λh=>by subst h;exact(nz.zero _ _).2 rfl⟩
 anti:=λa b=>nz.anti _ _
 lt:=λa b c=>nz.lt _ _ _
def lex{α β:Type}(c:α->α->Int)(e:β->β->Int)(p q:α×β):Int:=if c p.1 q.1=0 then e p.2 q.2 else c p.1 q.1
theorem Av{α β:Type}{c:α->α->Int}{e:β->β->Int}(hc:iO c)(he:iO e):iO (lex c e) where
 range:=λa b=>by unfold lex;split;exact he.range _ _;exact hc.range _ _
 zero:=λa b=>by
  unfold lex;split
  . rename_i h;rw[he.zero,Prod.ext_iff];exact⟨λk=>⟨(hc.zero _ _).1 h,k⟩,λk=>k.2⟩
  . rename_i h;exact⟨λk=>absurd k h,λk=>absurd ((hc.zero _ _).2 (by rw[k])) h⟩
 anti:=λa b=>by
  unfold lex;rw[hc.anti a.1 b.1];by_cases h:c a.1 b.1=0
  . rw[if_pos h,if_pos (by omega),he.anti]
  . rw[if_neg h,if_neg (by omega)]
 lt:=λa b d=>by
  unfold lex;intro h1 h2;by_cases k1:c a.1 b.1=0
  . have e1:=(hc.zero _ _).1 k1;rw[if_pos k1]at h1;rw[e1];by_cases k2:c b.1 d.1=0
    . rw[if_pos k2]at h2 ⊢;exact he.lt _ _ _ h1 h2
    . rw[if_neg k2]at h2 ⊢;exact h2
  . rw[if_neg k1]at h1;by_cases k2:c b.1 d.1=0
    . have e2:=(hc.zero _ _).1 k2;rw[<- e2,if_neg k1];exact h1
    . rw[if_neg k2]at h2;have h3:=hc.lt _ _ _ h1 h2;rw[if_neg (by omega)];exact h3
abbrev cpl:Bs×Int->Bs×Int->Int:=lex bD cR
theorem jY:iO cpl:=Av cj sF
theorem sG{a b:Bs}(s t:Int)(ha:bc a=true)(hb:bc b=true):qA a s b t=cpl (a,s) (b,t):=by
 unfold qA cpl lex ej;simp only[ha,hb,and_self,if_true,cj.zero]
def Signed.place(s:Signed):Bs×Int:=(s.set.name,s.set.type)
def dz.place(q:dz):Bs×Int:=(q.name,q.type)
def gu:List Signed->Prop
 |[]=>True
 |[_]=>True
 |a::b::t=>cpl a.place b.place<0/\gu (b::t)
theorem SF{a b c:Bs×Int}(h1:0<=cpl a c)(h2:cpl a b<0):0<=cpl b c:=by
 rcases jY.range b c with h|h|h
 . rcases jY.range a b with k|k|k
   . have:=jY.lt a b c k h;omega
   . omega
   . omega
 . omega
 . omega
theorem Bx{q:Bs×Int}:∀{l:List Signed} {x:Signed},gu (x::l)->0<=cpl x.place q-> ∀s∈l,0<=cpl s.place q
 |[],_,_,_,s,hs=>by cases hs
 |y::t,x,h,hx,s,hs=>by
  have hy:=SF hx h.1;rcases List.mem_cons.1 hs with rfl|hs
  . exact hy
  . exact Bx h.2 hy s hs
theorem mL:∀{l:List Signed} {x:Signed},gu (x::l)-> ∀s∈l,cpl x.place s.place<0
 |[],_,_,s,hs=>by cases hs
 |y::t,x,h,s,hs=>by
  rcases List.mem_cons.1 hs with rfl|hs
  . exact h.1
  . have h1:=mL h.2 s hs;have h2:=h.1;rcases jY.range x.place y.place with a|a|a <;> rcases jY.range y.place s.place with b|b|b <;> first|omega|skip
    have:=jY.lt _ _ _ a b;omega
theorem gu.tail{x:Signed}:∀{l:List Signed},gu (x::l)->gu l
 |[],_=>trivial
 |_::_,h=>h.2
def posOf(l:List Signed)(q:dz):Nat:=(l.takeWhile λs=>decide (cpl s.place q.place<0)).length
def is(q:dz)(s:Signed):Bool:=(s.set.name==q.name)&&(s.set.type==q.type)
def jA(l:List Signed)(q:dz):Bool:=l.any (is q)
theorem uO(q:dz)(s:Signed):is q s=true ↔ s.place=q.place:=by
 simp[is,Signed.place,dz.place]
theorem EA{s:Signed}{q:dz}(hs:bc s.set.name=true)(hq:bc q.name=true):plc s q=cpl s.place q.place:=sG _ _ hs hq
theorem xO(q:dz)(hq:bc q.name=true):∀(l:List Signed),gu l->(∀s∈l,bc s.set.name=true)->Split l q (posOf l q)/\foundAt l q (posOf l q)=jA l q
 |[],_,_=>⟨⟨Nat.le_refl _,λi s h=>(by cases h),λi s h=>(by cases h)⟩,rfl⟩
 |x::l,h,hv=>by
  have hx:=EA (hv x (List.mem_cons_self ..)) hq;by_cases hlt:cpl x.place q.place<0
  . have hp:posOf (x::l) q=posOf l q+1:=by simp[posOf,List.takeWhile_cons,hlt]
    obtain⟨⟨h1,h2,h3⟩,h4⟩:=xO q hq l h.tail λs hs=>hv s (aZ _ hs)
    rw[hp];refine⟨⟨by simp;exact h1,?_,?_⟩,?_⟩
    . intro i s hs hi;cases i with
      |zero=>cases hs;omega
      |succ i=>exact h2 i s hs (by omega)
    . intro i s hs hi;cases i with
      |zero=>omega
      |succ i=>exact h3 i s hs (by omega)
    . have hne:is q x=false:=by
       cases hi:is q x with
       |false=>rfl
       |true=>rw[(uO q x).1 hi,(jY.zero _ _).2 rfl]at hlt;omega
      unfold foundAt at h4 ⊢;rw[List.getElem?_cons_succ,h4];simp[jA,hne]
  . have hp:posOf (x::l) q=0:=by simp[posOf,List.takeWhile_cons,hlt]
    have hge:0<=cpl x.place q.place:=by omega
    rw[hp];refine⟨⟨by omega,λi s _ hi=>by omega,?_⟩,?_⟩
    . intro i s hs _;have hm:=ar hs;rw[EA (hv s hm) hq];rcases List.mem_cons.1 hm with rfl|hm
      . exact hge
      . exact Bx h hge s hm
    . show(plc x q==0)=_
      rw[hx];have hb:(cpl x.place q.place==0)=is q x:=by
       rw[Bool.eq_iff_iff,beq_iff_eq,jY.zero,uO]
      rw[hb];cases hi:is q x with
      |true=>simp[jA,hi]
      |false =>
       have:jA l q=false:=by
        simp only[jA,List.any_eq_false];intro s hs hs';have h1:=mL h s hs;rw[(uO q s).1 hs']at h1;omega
       simp only[jA,List.any_cons,hi,iJ]at this ⊢;exact this.symm
structure Ordered(z:aB):Prop where
 apex:bc z.apex=true
 tame:jO z.apex=false
 few:z.sets.length<=20000
 set:∀s∈z.sets,dG s.set=true
 under:∀s∈z.sets,(bl s.set.name z.apex).1=true
 rising:gu z.sets
theorem lv{s:ck}(h:dG s=true):bc s.name=true:=by
 unfold dG at h;simp only[aH,Bool.not_eq_true',Bool.or_eq_false_iff,Bool.not_eq_false']at h;exact h.1.1.1.1.1
theorem By:∀(l:List Signed),(∀s∈l,bc s.set.name=true)->(∀i p s,l[i]? =some p->l[i+1]? =some s->qA p.set.name p.set.type s.set.name s.set.type<0)->gu l
 |[],_,_=>trivial
 |[_],_,_=>trivial
 | a :: b :: t, hv, h => ⟨by
     have:=h 0 a b rfl rfl
     rwa [sG _ _ (hv a (by simp)) (hv b (by simp))]at this,By (b::t) (λs hs=>hv s (aZ _ hs)) λi p s hp hs=>h (i+1) p s hp hs⟩
theorem Ordered.of{z:aB}(h:ordered z=true):Ordered z:=by
 unfold ordered at h;simp only[aH,Bool.not_eq_true',Bool.or_eq_false_iff,Bool.not_eq_false',decide_eq_false_iff_not,ay,List.mem_range]at h;obtain⟨⟨⟨h1,h2⟩,h3⟩,h4⟩:=h;have hat:∀(i:Nat) s p,z.sets[i]? =some s->z.sets[i-1]? =some p->lO z.apex i s p=false:=by
  intro i s p hs hp;have:=h4 i (aq.1 hs).1;rw[qg hs hp]at this;simpa using this
 have hset:∀s∈z.sets,dG s.set=true/\(bl s.set.name z.apex).1=true:=by
  intro s hs;obtain⟨i,hi⟩:=cd hs;obtain⟨hl,_⟩:=aq.1 hi;obtain⟨p,hp⟩:∃p,z.sets[i-1]? =some p:=⟨_,aj (by omega)⟩
  have:=hat i s p hi hp;unfold lO at this;simp only[Bool.or_eq_false_iff,Bool.not_eq_false']at this;exact⟨this.1.1,this.1.2⟩
 refine⟨h1,h2,by omega,λs hs=>(hset s hs).1,λs hs=>(hset s hs).2,By _ (λs hs=>lv (hset s hs).1) ?_⟩;intro i p s hp hs;have:=hat (i+1) s p hs hp;unfold lO at this;simp only[Bool.or_eq_false_iff,Bool.not_eq_false',Bool.and_eq_false_iff,decide_eq_false_iff_not,beq_iff_eq]at this;rcases this.2 with k|k
 . omega
 . omega
theorem Ordered.name{z:aB}(h:Ordered z):∀s∈z.sets,bc s.set.name=true:=λs hs=>lv (h.set s hs)
def aR(z:aB):Bool:=ordered z&&oU (λt=>jA z.sets ⟨z.apex,t⟩) z&&(aliases z&&sK z (dh z)&&tA z (dh z)&&qF z)
def ED(q:dz):Bool:=bc q.name&&decide (q.type>=1)&&decide (q.type<=8)
end NP
namespace Go.Proofs.YtodofogcincleaaGreatDoor
open NQ Go NP Go.RowKit
theorem GR{z:aB}(h:Ordered z)(q:dz)(hq:bc q.name=true) :
 NQ.Fn cx 144 [.agg (aG z),.agg (oC q)] (.tuple [.d (.int .i64 (posOf z.sets q)),.d (.bool (jA z.sets q))]) []:=by
 obtain⟨h1,h2⟩:=xO q hq z.sets h.rising h.name;have:=Qk z q (posOf z.sets q) (by have:=h.few;omega) h1
 rwa [h2]at this
theorem iM(z:aB):NQ.Fn cx 40 [.agg (aG z)] (.d (.bool (aR z))) []:=by
 refine aM aV mixed Tryz.func40 (by kernel_rfl) rfl (ag rfl) ?_;conv=>whnf
 (refine⟨_,_,Jr z,?_⟩;conv=>whnf)
 (refine af (λh=>?_) (λh=>?_) <;> (rw[h];conv=>whnf))
 . (refine al rfl ?_;show AV.d (D.bool false)=_;(try simp only[Bool.not_eq_true',Bool.not_eq_false',ao]at *);simp only[aR, *, if_true,if_false,aK];done)
 have ho:Ordered z:=Ordered.of (by simpa using h);have hn:z.sets.length<=100000:=by have:=ho.few;omega
 have hb:(dh z).length=z.sets.length:=tY _ _ _
 (refine⟨_,_,CQ z hn _ _ (λt=>GR ho ⟨z.apex,t⟩ ho.apex),?_⟩;conv=>whnf)
 (refine af (λh=>?_) (λh=>?_) <;> (rw[h];conv=>whnf))
 . (refine al rfl ?_;show AV.d (D.bool false)=_;(try simp only[Bool.not_eq_true',Bool.not_eq_false',ao]at *);simp only[aR, *, if_true,if_false,aK];done)
 (refine⟨_,_,LC z hn,?_⟩;conv=>whnf)
 have hv:aR z=(aliases z&&sK z (dh z)&&tA z (dh z)&&qF z):=by
  simp only[Bool.not_eq_false']at *;simp only[aR, *, if_true,if_false,aK]
 (refine⟨_,_,zV z _ hn,?_⟩;conv=>whnf)
 repeat' (first|(refine⟨_,_,Fy z _ hn hb,?_⟩;conv=>whnf)|(refine⟨_,_,Ge z _ hn hb,?_⟩;conv=>whnf)|(refine⟨_,_,DH z _ hn,?_⟩;conv=>whnf)|(refine⟨(by kernel_rfl:bC _ _=true),?_⟩;conv=>whnf)|(refine af (λh=>?_) (λh=>?_) <;> (rw[h];conv=>whnf))|fail)
 all_goals first
  |(refine al rfl ?_;show AV.d (D.bool false)=_;rw[hv];simp only[*, if_true,if_false,aK];done)
  |(refine al rfl ?_;show AV.d (D.bool (qF z))=_;rw[hv];simp only[*, if_true,if_false,aK];done)
  |fail
end Go.Proofs.YtodofogcincleaaGreatDoor
namespace NP
open NQ Go
theorem FJ{s:Bs}(h:bc s=true):cW (fR s)=(cW s).tail:=wK (yW (List.tail_suffix _) (vn h))
theorem Ew{s:Bs}(h:bc s=true):bc (fR s)=true:=EZ (List.tail_suffix _) h
theorem Pg{n z:Bs}(hn:bc n=true)(h:bK n z=true)(hne:n≠z):n≠[46]/\bK (fR n) z=true/\(cW (fR n)).length+1=(cW n).length:=by
 unfold bK at h ⊢;rw[FJ hn];have hs:=List.isSuffixOf_iff_suffix.1 h;cases hl:cW n with
 |nil =>
  rw[hl]at hs;have:cW z=[]:=List.suffix_nil.1 hs;exact absurd (xE (by rw[hl,this])) hne
 |cons x t =>
  rw[hl]at hs;refine⟨λe=>by rw[e]at hl;simp[cW]at hl,?_,by simp⟩;rcases List.suffix_cons_iff.1 hs with k|k
  . exact absurd (xE (by rw[hl,k])) hne
  . exact List.isSuffixOf_iff_suffix.2 k
theorem ND{l:List Signed}{q:dz}{c:Nat}(h:foundAt l q c=true):∃s,l[c]? =some s/\plc s q=0:=by
 unfold foundAt at h;split at h
 . rename_i s hs;exact⟨s,hs,by simpa using h⟩
 . cases h
theorem NF{z:aB}(ho:Ordered z){q:dz}(hq:bc q.name=true)(h:jA z.sets q=true):∃s,z.sets[posOf z.sets q]? =some s/\s∈z.sets/\s.place=q.place:=by
 obtain⟨_,h2⟩:=xO q hq z.sets ho.rising ho.name;rw[h]at h2;obtain⟨s,hs,hp⟩:=ND h2;have hm:=ar hs;exact⟨s,hs,hm,(jY.zero _ _).1 (by rw[<- EA (ho.name s hm) hq];exact hp)⟩
theorem bT{z:aB}(h:aR z=true):Ordered z:=by
 unfold aR at h;simp only[aH]at h;exact Ordered.of h.1.1
theorem vd{s:ck}(h:dG s=true):∃d,s.data[0]? =some d:=by
 unfold dG at h;simp only[aH,Bool.not_eq_true',Bool.or_eq_false_iff,Bool.not_eq_false']at h;have h1:=h.1.1.2;unfold within at h1;simp at h1;exact⟨_,aj (by omega)⟩
def eP(z:aB):Int:=match z.sets[posOf z.sets ⟨z.apex,4⟩]? with|some s=>(match s.set.data[0]? with|some d=>d.n|none=>0)|none=>0
def sn(z:aB):Int×Int:=if (!aR z)=true then(0,1)else(eP z,0)
def yr(z:aB):Nat->Bs->Option Bs
 |0,_=>none
 |f+1,n=>if n=z.apex then none else if jA z.sets ⟨n,2⟩=true then some n else yr z f (fR n)
def No(z:aB)(s:Bs):Option Bs:=yr z ((cW s).length+1) s
def oJ(z:aB)(s:Bs):Bs×Bool×Int :=
 if (!bc s|| !aR z)=true then([],false,1)else if (!(bl s z.apex).1)=true then([],false,20)
 else match No z s with|some c=>(c,true,0)|none=>([],false,0)
end NP
namespace Go.Proofs.YtodofogcincleaaGreatDoor
open NQ Go NP Go.RowKit
theorem Rx(z:aB)(s:Bs):NQ.Fn cx 140 [.agg (aG z),.str s] (.tuple [.d (.str (oJ z s).1),.d (.bool (oJ z s).2.1),.d (.int .i64 (oJ z s).2.2)]) []:=by
 refine aM aV mixed Tryz.func140 (by kernel_rfl) rfl (ag rfl) ?_;conv=>whnf
 (refine⟨_,_,mg s,?_⟩;conv=>whnf)
 (refine af (λh=>?_) (λh=>?_) <;> (rw[h];conv=>whnf))
 . refine al rfl ?_;rw[oJ,h];rfl
 (refine⟨_,_,iM z,?_⟩;conv=>whnf)
 (refine af (λh=>?_) (λh=>?_) <;> (rw[h];conv=>whnf))
 . refine al rfl ?_;rw[oJ,if_pos (by simp only[*, if_true,if_false,aK])];rfl
 have hvs:bc s=true:=by simp only[Bool.not_eq_false']at *; assumption
 have hv:aR z=true:=by simp only[Bool.not_eq_false']at *; assumption
 have ho:=bT hv;have h0:¬(!bc s|| !aR z)=true:=by simp[hvs,hv]
 (refine⟨_,_,nu s z.apex,?_⟩;conv=>whnf)
 (refine af (λh=>?_) (λh=>?_) <;> (rw[h];conv=>whnf))
 . refine al rfl ?_;rw[oJ,if_neg h0,if_pos (by assumption)];rfl
 have hu:bl s z.apex=(true,0):=by
  have h3:(bl s z.apex).1=true:=by simp only[Bool.not_eq_false']at *; assumption
  unfold bl at h3 ⊢;rw[if_pos ⟨hvs,ho.apex⟩]at h3 ⊢;rw[show bK s z.apex=true from h3]
 have hR:oJ z s=(match No z s with|some c=>(c,true,0)|none=>([],false,0)):=by
  rw[oJ,if_neg h0,hu];rfl
 have hun:bK s z.apex=true:=by
  unfold bl at hu;rw[if_pos ⟨hvs,ho.apex⟩]at hu;exact(Prod.mk.inj hu).1
 refine⟨Bs,λn=>⟨[(2,.ptr 2 0),(9,.ptr 9 0),(10,.d (.str n))],[(2,.box ((aG z).map .d)),(9,.box ((aG z).map .d))]⟩,
  λn=>bc n=true/\bK n z.apex=true/\yr z ((cW n).length+1) n=No z s,λn=>(cW n).length,
  ⟨s,⟨hvs,hun,rfl⟩,aF.keep ⟨ae,ae,ae,trivial⟩ ⟨ae,ae,trivial⟩⟩,λn ⟨hvn,hn,hc⟩=>?_⟩
 conv=>whnf
 refine af (λh1=>?_) (λh1=>?_) <;> (rw[h1];conv=>whnf)
 . have hne:n≠z.apex:=by simpa using h1
   obtain⟨k1,k2,k3⟩:=Pg hvn hn hne;rw[yr,if_neg hne]at hc
   (refine⟨_,_,GR ho ⟨n,2⟩ hvn,?_⟩;conv=>whnf)
   refine af (λh2=>?_) (λh2=>?_) <;> (rw[h2];conv=>whnf)
   . refine al rfl ?_;rw[if_pos h2]at hc;rw[hR, <- hc];rfl
   . rw[if_neg (by rw[h2];exact Bool.false_ne_true), <- k3]at hc;have hp:iq n=(fR n,0):=by unfold iq;rw[if_pos hvn,if_neg k1]
     have hpf:=Kq n;rw[hp]at hpf
     (refine⟨_,_,hpf,?_⟩;conv=>whnf)
     exact⟨fR n,⟨Ew hvn,k2,hc⟩,by(show(cW (fR n)).length<(cW n).length;omega),aF.keep ⟨ae,ae,ae,trivial⟩ ⟨ae,ae,trivial⟩⟩
 . have hne:n=z.apex:=by simpa using h1
   rw[yr,if_pos hne]at hc;refine al rfl ?_;rw[hR, <- hc];rfl
end Go.Proofs.YtodofogcincleaaGreatDoor
namespace NP
open NQ Go
def mY(l:List Bs):Bs:=(l[l.length-1]?).getD []
def yS(n b:Bs):Bool:= !(b==[])&& !(b==n)
def yT(acc:List Bs)(n:Bs):Bool:=((acc.length:Int)==0)|| !(mY acc==n)
def nam:List Bs->List (Signed×Bs)->List Bs
 |acc,[]=>acc
 |acc,(s,b)::t=>nam (if yS s.set.name b=true then acc else if yT acc s.set.name=true then acc++[s.set.name]else acc) t
def sh(z:aB):List Bs:=nam [] (z.sets.zip (dh z))
def jQ(z:aB):List Bs×Int:=if (!aR z)=true then([],1)else(sh z,0)
theorem Au{acc:List Bs}(h:(((acc.map bt).length:Int)==0)=false):acc.length≠0:=by simp at h;simpa using h
theorem Of{acc:List Bs}(h:(((acc.map bt).length:Int)==0)=false):(acc.map bt)[((acc.length-1:Nat):Int).toNat]? =some (bt (mY acc)):=by
 have h' :=Au h;rw[Int.toNat_natCast,aN,mY,aj (by omega)];rfl
theorem LA{acc:List Bs}(hl:acc.length<=100000)(h:(((acc.map bt).length:Int)==0)=false):IntKind.i64.wrap (((acc.map bt).length:Int)-1)=((acc.length-1:Nat):Int):=by
 have h' :=Au h;rw[ao,wrap_i64 (by omega) (by omega)];omega
theorem Qx{acc:List Bs}(h:(((acc.map bt).length:Int)==0)=false):((acc.length-1:Nat):Int).toNat<(acc.map bt).length:=by
 have h' :=Au h;simp;omega
end NP
namespace Go.Proofs.YtodofogcincleaaGreatDoor
open NQ Go NP Go.RowKit
theorem Ov(z:aB):NQ.Fn cx 228 [.agg (aG z)] (.tuple [.d (.slice 1 ((jQ z).1.map bt)),.d (.int .i64 (jQ z).2)]) []:=by
 refine aM aV mixed Tryz.func228 (by kernel_rfl) rfl (ag rfl) ?_;conv=>whnf
 (refine⟨_,_,iM z,?_⟩;conv=>whnf)
 (refine af (λh=>?_) (λh=>?_) <;> (rw[h];conv=>whnf))
 . refine al rfl ?_;rw[jQ,if_pos h];rfl
 have hv:aR z=true:=by simpa using h
 have ho:=bT hv;have hn:z.sets.length<=100000:=by have:=ho.few;omega
 have hb:(dh z).length=z.sets.length:=tY _ _ _;have hR:jQ z=(sh z,0):=by rw[jQ,if_neg (by simp[hv])]
 (refine⟨_,_,LC z hn,?_⟩;conv=>whnf)
 refine ⟨Nat × List Bs, fun x => ⟨[(1, .ptr 1 0), (4, .ptr 4 0), (5, .own 100), (18, .d (.slice 5 (z.sets.map ak))), (19, .d (.int .i64 ((z.sets.map ak).length : Int))), (20, .d (.int .i64 x.1))],
     [(1,.box ((aG z).map .d)),(4,.box ((rA z (dh z)).map .d)),(100,.row 9 1 (x.2.map bt))]⟩,
  λx=>x.1<=z.sets.length/\x.2.length<=x.1/\nam x.2 ((z.sets.zip (dh z)).drop x.1)=sh z,λx=>z.sets.length-x.1,
  ⟨(0,[]),⟨by simp,by simp,rfl⟩,(aF.kj 5 100 1 9 1 rfl rfl (by decide)).trans (aF.keep ⟨ae,ae,ae,ae,ae,ae,trivial⟩ ⟨ae,ae,ae,trivial⟩)⟩,?_⟩
 rintro⟨k,acc⟩ ⟨hk,hl,hc⟩;simp only at hk hl hc
 conv=>whnf
 refine af (λh1=>?_) (λh1=>?_) <;> (rw[h1];conv=>whnf)
 . have hlt:k<z.sets.length:=by simp at h1;omega
   obtain⟨s,hs⟩:∃s,z.sets[k]? =some s:=⟨_,aj hlt⟩
   obtain⟨b,hb'⟩:∃b,(dh z)[k]? =some b:=⟨_,aj (by omega)⟩
   have hdr:(z.sets.zip (dh z)).drop k=(s,b)::(z.sets.zip (dh z)).drop (k+1):=by
    rw[List.drop_eq_getElem_cons (by simp;omega)]
    congr 1
    rw[List.getElem_zip];obtain⟨_,e1⟩:=aq.1 hs;obtain⟨_,e2⟩:=aq.1 hb';rw[e1,e2]
   rw[hdr,nam]at hc;refine⟨aw k,ak s,aD hs,?_⟩
   conv=>whnf
   have e0:(⟨#[]⟩:ByteArray).data.toList=[]:=rfl;clear hdr hb
   repeat' (first
    |(refine⟨(by kernel_rfl:bC _ _=true),?_⟩;conv=>whnf)
    |(refine⟨(k+1,acc),⟨hlt,by(simp;omega),(by(try simp only[e0,ao]at *);simp only[yS,yT, *, if_true,if_false,aK]at hc;exact hc)⟩,by(show z.sets.length-(k+1)<z.sets.length-k;omega),aF.keep ⟨ae,ae,ae,ae,ae,⟨an (by omega),rfl⟩,trivial⟩ ⟨ae,ae,⟨by first|rfl|(show some (Blk.row _ _ (_++_))=some (Blk.row _ _ _);rw[List.map_append];rfl),rfl⟩,trivial⟩⟩;done)
    |(refine⟨(k+1,acc++[s.set.name]),⟨hlt,by(simp;omega),(by(try simp only[e0,ao]at *);simp only[yS,yT, *, if_true,if_false,aK]at hc;exact hc)⟩,by(show z.sets.length-(k+1)<z.sets.length-k;omega),aF.keep ⟨ae,ae,ae,ae,ae,⟨an (by omega),rfl⟩,trivial⟩ ⟨ae,ae,⟨by first|rfl|(show some (Blk.row _ _ (_++_))=some (Blk.row _ _ _);rw[List.map_append];rfl),rfl⟩,trivial⟩⟩;done)
    |(refine af (λh=>?_) (λh=>?_) <;> (rw[h];conv=>whnf))
    |(refine⟨aw k,bt b,aD hb',?_⟩;conv=>whnf)
    |(rw[LA (acc:=acc) (by omega) (by assumption)];refine⟨aw _,Qx (acc:=acc) (by assumption),?_⟩;conv=>whnf)
    |(refine⟨_,Of (acc:=acc) (by assumption),?_⟩;conv=>whnf)
    |(refine⟨by(show(acc.map bt).length+1<=_;rw[ao];omega),by(show((acc.map bt).length+1)*16<=_;rw[ao];omega),?_⟩;conv=>whnf)
    |fail)
 . obtain rfl:k=z.sets.length:=by simp at h1;omega
   refine al rfl ?_;rw[List.drop_eq_nil_of_le (by simp;omega),nam]at hc;rw[hR, <- hc];rfl
end Go.Proofs.YtodofogcincleaaGreatDoor
namespace NP
open NQ Go
def atI(l:List Signed)(q:dz):Int:=match l.findIdx? (is q)with|some k=>(k:Int)|none=> -1
def pX(l:List Signed)(q:dz)(i:Nat):Bool:=match l[i]? with|some x=> !is q x|none=>true
theorem PY{l:List Signed}{q:dz}{k:Nat}{s:Signed}(hk:l[k]? =some s)(hs:is q s=true)(hb:(List.range k).all (pX l q)=true):atI l q=k:=by
 obtain⟨hl,e⟩:=aq.1 hk;have:l.findIdx? (is q)=some k:=List.findIdx?_eq_some_iff_getElem.2 ⟨hl,by rw[e];exact hs,λj hj=>by
  have:=ay.1 hb j (List.mem_range.2 hj);simp only[pX,aj (show j<l.length by omega)]at this;simpa using this⟩
 rw[atI,this]
theorem MV{l:List Signed}{q:dz}(hb:(List.range l.length).all (pX l q)=true):atI l q= -1:=by
 have:l.findIdx? (is q)=none:=List.findIdx?_eq_none_iff.2 λx hx=>by
  obtain⟨j,hj,rfl⟩:=List.getElem_of_mem hx;have:=ay.1 hb j (List.mem_range.2 hj);simp only[pX,aj hj]at this;simpa using this
 rw[atI,this]
def sO(z:aB)(i:Nat):Bool:=match z.sets[i]? with|some s=> !(decide ((s.set.data.length:Int)>20)||decide ((s.sigs.length:Int)>20))|none=>false
def oL(z:aB):Bool:=decide ((z.sets.length:Int)<=100)&&(List.range z.sets.length).all (sO z)
def Jp(apex:Bs)(i:Nat)(s p:Signed):Bool:= !dG s.set|| !bK s.set.name apex||(decide ((i:Int)>0)&&decide (cpl (p.set.name,p.set.type) (s.set.name,s.set.type)>=0))
def Jo(z:aB)(i:Nat):Bool:=match z.sets[i]?, z.sets[i-1]? with|some s,some p=> !Jp z.apex i s p|_,_=>false
def En(z:aB):Bool:= !((!bc z.apex||jO z.apex)||decide ((z.sets.length:Int)>20000))&&(List.range z.sets.length).all (Jo z)
def SM(i:Nat)(apex:Bs)(g f p:Sig):Bool :=
 (!(g.zone==apex)||decide (g.key<1)||decide (g.key>1000000)||decide (g.alg<1)||decide (g.alg>3)||(g.since != f.since)||(g.till != f.till)||(decide ((i:Int)>0)&&decide (g.key<=p.key))) ||
  (decide (g.since<0)||decide (g.since>g.till)||decide (g.till>20000000))
def gAt(l:List Sig)(apex:Bs)(i:Nat):Bool:=match l[i]?, l[0]?, l[i-1]? with|some g,some f,some p=> !SM i apex g f p|_,_,_=>false
def gB(l:List Sig)(apex:Bs):Bool:= !decide ((l.length:Int)>6)&&(List.range l.length).all (gAt l apex)
end NP
namespace Go.Proofs.YtodofogcincleaaGreatDoor
open NQ Go NP Go.RowKit
theorem Pt(z:aB)(q:dz)(hn:z.sets.length<=100000):NQ.Fn cx 19 [.agg (aG z),.agg (oC q)] (.d (.int .i64 (atI z.sets q))) []:=by
 refine aM aV mixed Tryz.func19 (by kernel_rfl) rfl (ag rfl) ?_;conv=>whnf
 refine⟨Nat,λk=>⟨[(2,.ptr 2 0),(3,.ptr 3 0),(5,.d (.int .i64 k))],[(2,.box ((aG z).map .d)),(3,.box ((oC q).map .d))]⟩,λk=>k<=z.sets.length/\(List.range k).all (pX z.sets q)=true,λk=>z.sets.length-k,⟨0,⟨by omega,rfl⟩,aF.keep ⟨ae,ae,ae,trivial⟩ ⟨ae,ae,trivial⟩⟩,λk ⟨hk,hall⟩=>?_⟩;(conv=>whnf);refine af (λh1=>?_) (λh1=>?_) <;> (rw[h1];conv=>whnf)
 . have hlt:k<z.sets.length:=by simp at h1;omega
   obtain⟨s,hs⟩:∃s,z.sets[k]? =some s:=⟨_,aj hlt⟩
   have hat:pX z.sets q k= !is q s:=by simp only[pX,hs]
   repeat' (first
    |(refine⟨(by kernel_rfl:bC _ _=true),?_⟩;conv=>whnf)
    |(refine al rfl ?_;rw[PY hs (by simp only[is, *, if_true,if_false,aK]) hall];rfl)
    |(refine⟨k+1,⟨by omega,?_⟩,by(show z.sets.length-(k+1)<z.sets.length-k;omega),aF.keep ⟨ae,ae,⟨an (by omega),rfl⟩,trivial⟩ ⟨ae,ae,trivial⟩⟩;rw[dw,hall,hat];((try simp only[ao]at *);simp only[is, *, if_true,if_false,aK];done))
    |(refine af (λh=>?_) (λh=>?_) <;> (rw[h];conv=>whnf))
    |(refine⟨aw k,ak s,aD hs,?_⟩;conv=>whnf)
    |fail)
 . obtain rfl:k=z.sets.length:=(by simp at h1;omega)
   refine al rfl ?_;rw[MV hall];rfl
theorem RI(z:aB):NQ.Fn cx 78 [.agg (aG z)] (.d (.bool (oL z))) []:=by
 refine aM aV mixed Tryz.func78 (by kernel_rfl) rfl (ag rfl) ?_;conv=>whnf
 refine⟨Nat,λk=>⟨[(1,.ptr 1 0),(3,.d (.int .i64 k))],[(1,.box ((aG z).map .d))]⟩,λk=>k<=z.sets.length/\k<=101/\(List.range k).all (sO z)=true,λk=>101-k,
  ⟨0,⟨by omega,by omega,rfl⟩,aF.keep ⟨ae,ae,trivial⟩ ⟨ae,trivial⟩⟩,λk ⟨hk,hk',hall⟩=>?_⟩
 conv=>whnf
 refine af (λh1=>?_) (λh1=>?_) <;> (rw[h1];conv=>whnf)
 . have hlt:k<z.sets.length:=by simp at h1;omega
   refine af (λh2=>?_) (λh2=>?_) <;> (rw[h2];conv=>whnf)
   . have hlt' :k<=100:=by simp at h2;omega
     obtain⟨s,hs⟩:∃s,z.sets[k]? =some s:=⟨_,aj hlt⟩
     have hat:sO z k= !(decide ((s.set.data.length:Int)>20)||decide ((s.sigs.length:Int)>20)):=by simp only[sO,hs]
     have hno:sO z k=false->oL z=false:=λhh=>by rw[oL,de hlt hh,kZ]
     repeat' (first
      |(refine⟨(by kernel_rfl:bC _ _=true),?_⟩;conv=>whnf)
      |(refine al rfl ?_;show AV.d (D.bool false)=_;(try simp only[ao]at *);rw[hno (by rw[hat];simp only[sO, *, if_true,if_false,aK])];done)
      |(refine⟨k+1,⟨by omega,by omega,?_⟩,by(show 101-(k+1)<101-k;omega),aF.keep ⟨ae,⟨an (by omega),rfl⟩,trivial⟩ ⟨ae,trivial⟩⟩;rw[dw,hall,hat];((try simp only[ao]at *);simp only[sO, *, if_true,if_false,aK];done))
      |(refine af (λh=>?_) (λh=>?_) <;> (rw[h];conv=>whnf))
      |(refine⟨aw k,ak s,aD hs,?_⟩;conv=>whnf)
      |fail)
   . refine al rfl ?_;show AV.d (D.bool (decide (((z.sets.map ak).length:Int)<=100)))=_
     have:decide ((z.sets.length:Int)<=100)=false:=by simp at h2 ⊢;omega
     rw[ao,oL,this];rfl
 . refine al rfl ?_;obtain rfl:k=z.sets.length:=(by simp at h1;omega)
   show AV.d (D.bool (decide (((z.sets.map ak).length:Int)<=100)))=_
   rw[ao,oL,hall,jm]
end Go.Proofs.YtodofogcincleaaGreatDoor
namespace NP
open NQ Go
theorem Ho(z:aB):En z=ordered z:=by
 unfold En ordered;by_cases hv:bc z.apex=true
 . congr 1
   by_cases hall:∀s∈z.sets,dG s.set=true
   . rw[Bool.eq_iff_iff,ay,ay];have heq:∀i,i<z.sets.length->Jo z i=qR z i:=by
      intro i hi;obtain⟨s,hs⟩:∃s,z.sets[i]? =some s:=⟨_,aj hi⟩
      obtain⟨p,hp⟩:∃p,z.sets[i-1]? =some p:=⟨_,aj (by omega)⟩
      have vs:=lv (hall s (ar hs));have vp:=lv (hall p (ar hp));have hu:(bl s.set.name z.apex).1=bK s.set.name z.apex:=by unfold bl;rw[if_pos ⟨vs,hv⟩]
      rw[qg hs hp];simp only[Jo,hs,hp];unfold Jp lO;rw[hu,sG _ _ vp vs];have:decide ((i:Int)>0)= !((i:Int)==0):=by rw[Bool.eq_iff_iff];simp;omega
      rw[this]
     exact⟨λh i hi=>by rw[<- heq i (List.mem_range.1 hi)];exact h i hi,λh i hi=>by rw[heq i (List.mem_range.1 hi)];exact h i hi⟩
   . have⟨s,hm,hs⟩:∃s∈z.sets,dG s.set=false:=by
      simp only[Classical.not_forall]at hall;obtain⟨s,hm,hs⟩:=hall;exact⟨s,hm,by simpa using hs⟩
     obtain⟨i,hi⟩:=cd hm;obtain⟨hl,_⟩:=aq.1 hi;obtain⟨p,hp⟩:∃p,z.sets[i-1]? =some p:=⟨_,aj (by omega)⟩
     rw[de hl (by simp only[Jo,hi,hp,Jp,hs];rfl),de hl (by rw[qg hi hp,lO,hs];rfl)]
 . simp[show bc z.apex=false by simpa using hv]
end NP
namespace Go.Proofs.YtodofogcincleaaGreatDoor
open NQ Go NP Go.RowKit
end Go.Proofs.YtodofogcincleaaGreatDoor
namespace NP
open NQ Go
def jv(apex:Bs):List Signed->List Bs
 |[]=>[]
 |s::t=>if jg apex s=true then s.set.name::jv apex t else jv apex t
theorem qB(apex:Bs):∀(l:List Signed) c,c∈jv apex l-> ∃s∈l,s.set.name=c
 |[],c,h=>by cases h
 |s::t,c,h=>by
  unfold jv at h;split at h
  . rcases List.mem_cons.1 h with rfl|h
    . exact⟨s,List.mem_cons_self .., rfl⟩
    . obtain⟨x,hx,e⟩:=qB apex t c h;exact⟨x,aZ _ hx,e⟩
  . obtain⟨x,hx,e⟩:=qB apex t c h;exact⟨x,aZ _ hx,e⟩
def yB(acc:List Bs)(c:Bs):Bool:=((acc.length:Int)==0)|| !bK c (mY acc)
def rr:List Bs->List Bs->List Bs
 |acc,[]=>acc
 |acc,c::t=>rr (if yB acc c=true then acc++[c]else acc) t
def dv(z:aB):List Bs:=rr [] (jv z.apex z.sets)
theorem drop_cons{α:Type}{l:List α}{k:Nat}{x:α}(h:l[k]? =some x):l.drop k=x::l.drop (k+1):=by
 obtain⟨hl,e⟩:=aq.1 h;rw[List.drop_eq_getElem_cons hl,e]
theorem oA{acc:List Bs}(h:acc.length≠0):mY acc∈acc:=by
 rw[mY,aj (by omega)];exact List.getElem_mem _
end NP
namespace Go.Proofs.YtodofogcincleaaGreatDoor
open NQ Go NP Go.RowKit
end Go.Proofs.YtodofogcincleaaGreatDoor
namespace NP
open NQ Go
def Cn(cs:List Bs)(n:Bs)(k:Nat):Nat:=k+((cs.drop k).takeWhile λc=>decide (bD c n<=0)).length
def Cv(cs:List Bs)(j:Nat):Bs:=(cs[j-1]?).getD []
def CY(cs:List Bs)(j:Nat)(n:Bs):Bs:=if (decide ((j:Int)>0)&&bK n (Cv cs j))=true then Cv cs j else[]
def bGo(cs:List Bs):Nat->List Signed->List Bs
 |_,[]=>[]
 |k,s::t=>CY cs (Cn cs s.set.name k) s.set.name::bGo cs (Cn cs s.set.name k) t
def GG(z:aB):List Bs:=bGo (dv z) 0 z.sets
theorem DR:∀(l acc:List Bs) c,c∈rr acc l->c∈acc\/c∈l
 |[],acc,c,h=> .inl h
 |x::t,acc,c,h=>by
  rw[rr]at h;rcases DR t _ c h with q|q
  . split at q
    . rcases List.mem_append.1 q with q|q
      . exact .inl q
      . simp at q;subst q;exact .inr (List.mem_cons_self ..)
    . exact .inl q
  . exact .inr (aZ _ q)
end NP
namespace Go.Proofs.YtodofogcincleaaGreatDoor
open NQ Go NP Go.RowKit
end Go.Proofs.YtodofogcincleaaGreatDoor
namespace NP
open NQ Go
def jr(b:Bool):List D:=[.bool b]
end NP
namespace Go.Proofs.YtodofogcincleaaGreatDoor
open NQ Go NP Go.RowKit
end Go.Proofs.YtodofogcincleaaGreatDoor
namespace NP
open NQ Go
theorem qo{a z:Bs}(h:bK a z=true):bD z a<=0:=by
 rw[lB]at h;obtain⟨t,ht⟩:=h;unfold bD;rw[<- ht];exact Fw cN _ _
theorem qp{a b c z:Bs}(ha:bK a z=true)(hc:bK c z=true)(h1:bD a b<=0)(h2:bD b c<=0):bK b z=true:=by
 rw[lB]at ha hc ⊢;obtain⟨s,hs⟩:=ha;obtain⟨t,ht⟩:=hc;unfold bD at h1 h2;rw[<- hs]at h1;rw[<- ht]at h2;exact qz cN _ _ _ _ h1 h2
theorem lC(a:Bs):bK a a=true:=by rw[lB];exact List.prefix_refl _
theorem KJ{a b:Bs}(h:bD a b<0):bD a b= -1:=by rcases cj.range a b with e|e|e <;> omega
theorem Nd{a b c:Bs}(h:bD a b<0)(k:bD b c<0):bD a c<0:=by
 have:=cj.lt _ _ _ (KJ h) (KJ k);omega
theorem GK{a b:Bs}(h:bD a b<0):¬bD b a<=0:=by have:=cj.anti a b;omega
abbrev Asc(l:List Bs):Prop:=l.Pairwise λa b=>bD a b<0
theorem Dn(apex:Bs):∀(l:List Signed),gu l->Asc (jv apex l)
 |[],_=>List.Pairwise.nil
 |x::t,h=>by
  have ih:=Dn apex t h.tail;unfold jv;split
  . rename_i hx;refine List.Pairwise.cons ?_ ih;intro c hc;have hm:∀(l:List Signed) c,c∈jv apex l-> ∃s∈l,s.set.name=c/\s.set.type=2:=by
     intro l;induction l with
     |nil=>intro c h;cases h
     |cons s l ih =>
      intro c h;unfold jv at h;split at h
      . rename_i hs;rcases List.mem_cons.1 h with rfl|h
        . refine⟨s,List.mem_cons_self .., rfl,?_⟩;unfold jg at hs;simp at hs;exact hs.1
        . obtain⟨y,hy,e⟩:=ih c h;exact⟨y,aZ _ hy,e⟩
      . obtain⟨y,hy,e⟩:=ih c h;exact⟨y,aZ _ hy,e⟩
    obtain⟨s,hs,e1,e2⟩:=hm t c hc;have hlt:=mL h s hs;have hx2:x.set.type=2:=by unfold jg at hx;simp at hx;exact hx.1
    unfold Signed.place at hlt;rw[e1,e2,hx2]at hlt;unfold cpl lex at hlt;split at hlt
    . have:cR 2 2=0:=rfl;simp only at hlt;rw[this]at hlt;omega
    . exact hlt
  . exact ih
def xe(l:List Bs):Prop:= ∀a∈l,∀b∈l,bK a b=true->a=b
theorem CS{l:List Bs}(h:Asc l)(hne:l.length≠0):∀a∈l,bD a (mY l)<=0:=by
 intro a ha;obtain⟨i,hi,rfl⟩:=List.getElem_of_mem ha;rw[mY,aj (by omega),Option.getD_some];by_cases e:i=l.length-1
 . subst e;rw[(cj.zero _ _).2 rfl];exact Int.le_refl _
 . have:=List.pairwise_iff_getElem.1 h i (l.length-1) hi (by omega) (by omega);omega
theorem uK:∀(rest acc:List Bs),Asc (acc++rest)->xe acc->Asc (rr acc rest)/\xe (rr acc rest)/\(∀a∈acc,a∈rr acc rest)/\(∀c∈rest,∃h∈rr acc rest,bK c h=true)
 |[],acc,h,ha=>⟨by rw[rr];simpa using h,ha,λa h=>h,λc h=>by cases h⟩
 |c::t,acc,h,ha=>by
  have hacc:Asc acc:=(List.pairwise_append.1 h).1;have hlt:∀a∈acc,bD a c<0:=λa hm=>(List.pairwise_append.1 h).2.2 a hm c (List.mem_cons_self ..)
  rw[rr];by_cases hn:yB acc c=true
  . rw[if_pos hn];have hno:∀a∈acc,bK c a=false:=by
     intro a hm;cases hu:bK c a with
     |false=>rfl
     |true =>
      have hne:acc.length≠0:=by cases acc with|nil=>cases hm|cons=>simp
      have h1:=CS hacc hne a hm;have h2:=hlt _ (oA hne);have h3:=qp (lC a) hu h1 (by omega);have h4:=ha _ (oA hne) _ hm h3;unfold yB at hn;rw[h4,hu]at hn;simp at hn;exact absurd (by simpa using hn) hne
    have hanti:xe (acc++[c]):=by
     intro a hma b hmb hu;rcases List.mem_append.1 hma with qa|qa <;> rcases List.mem_append.1 hmb with qb|qb
     . exact ha a qa b qb hu
     . simp at qb;subst qb;exact absurd (qo hu) (GK (hlt a qa))
     . simp at qa;subst qa;rw[hno b qb]at hu;cases hu
     . simp at qa qb;rw[qa,qb]
    obtain⟨r1,r2,r3,r4⟩:=uK t (acc++[c]) (by simpa using h) hanti;refine⟨r1,r2,λa hm=>r3 a (List.mem_append_left _ hm),λx hx=>?_⟩;rcases List.mem_cons.1 hx with rfl|hx
    . exact⟨x,r3 x (by simp),lC x⟩
    . exact r4 x hx
  . rw[if_neg hn];have hne:acc.length≠0:=λe=>hn (by unfold yB;rw[e];rfl)
    have hu:bK c (mY acc)=true:=by
     unfold yB at hn;simp at hn;exact hn.2
    have h' :Asc (acc++t):=by
     have h:=List.pairwise_append.1 h;refine List.pairwise_append.2 ?_;exact⟨h.1,(List.pairwise_cons.1 h.2.1).2,λa hm b hb=>h.2.2 a hm b (aZ _ hb)⟩
    obtain⟨r1,r2,r3,r4⟩:=uK t acc h' ha;refine⟨r1,r2,r3,λx hx=>?_⟩;rcases List.mem_cons.1 hx with rfl|hx
    . exact⟨_,r3 _ (oA hne),hu⟩
    . exact r4 x hx
def spec(H:List Bs)(n:Bs):Bs:=(H.find? λh=>bK n h).getD []
theorem AL{H:List Bs}(hA:Asc H)(ha:xe H){n h:Bs}(hm:h∈H)(hu:bK n h=true):spec H n=h:=by
 unfold spec;cases hf:H.find? (λh=>bK n h)with
 |none=>have:=List.find?_eq_none.1 hf h hm;rw[hu]at this;exact absurd rfl this
 |some g =>
  have hg:=List.find?_some hf;have hgm:=List.mem_of_find?_eq_some hf;show g=h
  have h1:=qo hu;have h2:=qo hg;rcases cj.range g h with e|e|e
  . exact(ha h hm g hgm (qp (lC g) hg (by omega) h1)).symm
  . exact(cj.zero _ _).1 e
  . have:=cj.anti g h;exact ha g hgm h hm (qp (lC h) hu (by omega) h2)
theorem BJ{H:List Bs}{n:Bs}(h:∀x∈H,bK n x=false):spec H n=[]:=by
 unfold spec;rw[List.find?_eq_none.2 λx hx=>by rw[h x hx];simp];rfl
def cnt(H:List Bs)(n:Bs):Nat:=(H.takeWhile λc=>decide (bD c n<=0)).length
theorem Kv{H:List Bs}{n:Bs}{k:Nat}(hk:k<=H.length)(hpre:∀c∈H.take k,bD c n<=0):Cn H n k=cnt H n:=by
 unfold Cn cnt
 conv=>rhs;rw[<- List.take_append_drop k H]
 rw[List.takeWhile_append_of_pos (by intro a ha;simpa using hpre a ha),List.length_append,List.length_take];omega
theorem KQ(H:List Bs)(n:Bs):cnt H n<=H.length:=by
 unfold cnt;exact(List.takeWhile_sublist _).length_le
theorem Mu{α:Type}{p:α->Bool}:∀{l:List α} {x:α},x∈l.takeWhile p->p x=true
 |[],x,h=>by cases h
 |y::t,x,h=>by
  rw[List.takeWhile_cons]at h;split at h
  . rcases List.mem_cons.1 h with rfl|h
    . assumption
    . exact Mu h
  . cases h
theorem Dj(H:List Bs)(n:Bs):∀c∈H.take (cnt H n),bD c n<=0:=by
 intro c hc;have:H.take (cnt H n)=H.takeWhile λc=>decide (bD c n<=0):=by
  unfold cnt;exact(List.prefix_iff_eq_take.1 (List.takeWhile_prefix _)).symm
 rw[this]at hc;have:=Mu hc;simpa using this
theorem Pe(H:List Bs)(n:Bs):H.take (cnt H n)=H.takeWhile λc=>decide (bD c n<=0):=by
 unfold cnt;exact(List.prefix_iff_eq_take.1 (List.takeWhile_prefix _)).symm
theorem wu{a b c:Bs}(h:bD a b<0)(k:bD b c<=0):bD a c<=0:=by
 rcases cj.range b c with e|e|e
 . have:=Nd h (by omega:bD b c<0);omega
 . rw[<- (cj.zero _ _).1 e];omega
 . omega
theorem Nc{a b c:Bs}(h:bD a b<=0)(k:bD b c<=0):bD a c<=0:=by
 rcases cj.range a b with e|e|e
 . exact wu (by omega) k
 . rw[(cj.zero _ _).1 e];exact k
 . omega
theorem Hf{n h:Bs}(hle:bD h n<=0):∀{H:List Bs},Asc H->h∈H->h∈H.takeWhile λc=>decide (bD c n<=0)
 |[],_,hm=>by cases hm
 |x::t,hA,hm=>by
  rcases List.mem_cons.1 hm with rfl|hm
  . rw[List.takeWhile_cons,if_pos (by simpa using hle)];exact List.mem_cons_self ..
  . have hx:=(List.pairwise_cons.1 hA).1 h hm;rw[List.takeWhile_cons,if_pos (by simpa using wu hx hle)];exact aZ _ (Hf hle (List.pairwise_cons.1 hA).2 hm)
theorem KB{H:List Bs}(hA:Asc H)(ha:xe H)(n:Bs):CY H (cnt H n) n=spec H n:=by
 have hpv:cnt H n≠0->Cv H (cnt H n)=mY (H.take (cnt H n))/\(H.take (cnt H n)).length≠0:=λh0=>by
  have hl:=KQ H n;have e:(H.take (cnt H n)).length=cnt H n:=by rw[List.length_take];omega
  refine⟨?_,by omega⟩;unfold Cv mY;rw[e,List.getElem?_take,if_pos (by omega)]
 by_cases hex:∃h∈H,bK n h=true
 . obtain⟨h,hm,hu⟩:=hex;have hmem:=Hf (qo hu) hA hm;rw[<- Pe]at hmem;have h0:cnt H n≠0:=λe=>by rw[e]at hmem;cases hmem
   obtain⟨e1,e2⟩:=hpv h0;have hAt:Asc (H.take (cnt H n)):=hA.sublist (List.take_sublist _ _);have h1:=CS hAt e2 h hmem;have hgm:=oA e2;have h2:=Dj H n _ hgm;have h3:=ha _ (List.mem_of_mem_take hgm) _ hm (qp (lC h) hu h1 h2);have hpos:decide (((cnt H n:Nat):Int)>0)=true:=by simp;omega
   rw[AL hA ha hm hu,CY,e1,h3,hu,hpos];rfl
 . have hno:∀x∈H,bK n x=false:=λx hx=>by
    cases hu:bK n x with
    |false=>rfl
    |true=>exact absurd ⟨x,hx,hu⟩ hex
   rw[BJ hno];by_cases h0:cnt H n=0
   . rw[CY,h0];rfl
   . obtain⟨e1,e2⟩:=hpv h0;rw[CY,e1,hno _ (List.mem_of_mem_take (oA e2)),kZ];rfl
theorem wP{l:List Signed}{x:Signed}(h:gu (x::l)):∀s∈l,bD x.set.name s.set.name<=0:=λs hs=>by
 have hlt:=mL h s hs;unfold cpl lex Signed.place at hlt;simp only at hlt;split at hlt
 . omega
 . omega
theorem CX{H:List Bs}(hA:Asc H)(ha:xe H):∀(l:List Signed) (k:Nat),gu l->k<=H.length->(∀s∈l,∀c∈H.take k,bD c s.set.name<=0)->bGo H k l=l.map λs=>spec H s.set.name
 |[],_,_,_,_=>rfl
 |s::t,k,hr,hk,hp=>by
  have e:=Kv hk (hp s (List.mem_cons_self ..));rw[bGo,e,KB hA ha,List.map_cons]
  congr 1
  refine CX hA ha t _ hr.tail (KQ _ _) λx hx c hc=>?_
  exact Nc (Dj _ _ c hc) (wP hr x hx)
theorem yC{z:aB}(h:Ordered z):Asc (dv z)/\xe (dv z)/\ ∀c∈jv z.apex z.sets,∃g∈dv z,bK c g=true:=by
 obtain⟨h1,h2,_,h4⟩:=uK (jv z.apex z.sets) [] (by simpa using Dn z.apex z.sets h.rising) (λa ha=>by cases ha);exact⟨h1,h2,h4⟩
theorem tX{z:aB}(h:Ordered z):GG z=z.sets.map λs=>spec (dv z) s.set.name:=by
 obtain⟨h1,h2,_⟩:=yC h;exact CX h1 h2 z.sets 0 h.rising (by omega) λs _ c hc=>by cases hc
theorem Bz:∀{l:List Signed},gu l->l.Pairwise λa b=>bD a.set.name b.set.name<=0
 |[],_=>List.Pairwise.nil
 |x::t,h=>List.Pairwise.cons (wP h) (Bz h.tail)
theorem xo(apex n:Bs):∀(l:List Signed),fc apex l n=true ↔ n∈jv apex l
 |[]=>by simp[fc,jv]
 |s::t=>by
  have ih:=xo apex n t;unfold fc at ih ⊢;unfold jv;rw[List.any_cons,Bool.or_eq_true,ih];by_cases h:jg apex s=true
  . rw[if_pos h,h,gZ,List.mem_cons,beq_iff_eq];exact⟨λk=>k.imp (λe=>e.symm) id,λk=>k.imp (λe=>e.symm) id⟩
  . have h' :jg apex s=false:=by simpa using h
    rw[if_neg h,h'];simp
theorem OU(H:List Bs)(n:Bs):spec H n=[]\/spec H n∈H:=by
 unfold spec;cases hf:H.find? (λh=>bK n h)with
 |none=>exact .inl rfl
 |some g=>exact .inr (List.mem_of_find?_eq_some hf)
theorem xy{z:aB}{h:Bs}(hm:h∈dv z):h∈jv z.apex z.sets:=by
 rcases DR _ _ _ hm with q|q
 . cases q
 . exact q
theorem yD{z:aB}(ho:Ordered z){h:Bs}(hm:h∈dv z):bc h=true:=by
 obtain⟨s,hs,e⟩:=qB _ _ _ (xy hm);rw[<- e];exact ho.name s hs
theorem Mp{z:aB}(ho:Ordered z){pre t:List Signed}{s:Signed}{c:Bs}(hz:pre++s::t=z.sets)
 (hc:(pre=[]/\c=[])\/ ∃p y,pre=p++[y]/\c=spec (dv z) y.set.name):kb (fc z.apex z.sets) c s.set.name=spec (dv z) s.set.name:=by
 obtain⟨hA,ha,hcov⟩:=yC ho;have hsm:s∈z.sets:=by rw[<- hz];simp
 have vs:=ho.name s hsm;have hcH:c=[]\/c∈dv z:=by
  rcases hc with ⟨_,e⟩|⟨p,y,_,e⟩
  . exact .inl e
  . rw[e];exact OU _ _
 have hu:∀h∈dv z,(bl s.set.name h).1=bK s.set.name h:=λh hm=>by
  unfold bl;rw[if_pos ⟨vs,yD ho hm⟩]
 have hne:∀h∈dv z,(h==[])=false:=λh hm=>by
  have:=yD ho hm;cases h with
  |nil=>exact absurd this (by decide)
  |cons=>rfl
 have hpw:=Bz ho.rising;rw[<- hz]at hpw;obtain⟨q1,q2,q3⟩:=List.pairwise_append.1 hpw;by_cases hex:∃h∈dv z,bK s.set.name h=true
 . obtain⟨h,hm,hun⟩:=hex;rw[AL hA ha hm hun];by_cases hch:c=h
   . subst hch;unfold kb;simp only[hne c hm,hu c hm,hun,rf,kZ,vy,eR,if_false]
   . have hnh:s.set.name=h:=by
      refine Classical.byContradiction λhnn=>hch ?_
      have hle:=qo hun;have hlt:bD h s.set.name<0:=by
       rcases cj.range h s.set.name with e|e|e
       . omega
       . exact absurd ((cj.zero _ _).1 e).symm hnn
       . omega
      obtain⟨x,hx,ex⟩:=qB _ _ _ (xy hm);rw[<- hz]at hx;have hxp:x∈pre:=by
       rcases List.mem_append.1 hx with k|k
       . exact k
       . rcases List.mem_cons.1 k with rfl|k
         . exact absurd ex hnn
         . have:=(List.pairwise_cons.1 q2).1 x k;rw[ex]at this;exact absurd this (GK hlt)
      rcases hc with ⟨e,_⟩|⟨p,y,e,ec⟩
      . rw[e]at hxp;cases hxp
      . have hys:=q3 y (by rw[e];simp) s (List.mem_cons_self ..);have hxy:bD x.set.name y.set.name<=0:=by
         rw[e]at hxp q1;rcases List.mem_append.1 hxp with k|k
         . exact(List.pairwise_append.1 q1).2.2 x k y (by simp)
         . simp at k;subst k;rw[(cj.zero _ _).2 rfl];exact Int.le_refl _
        rw[ex]at hxy;rw[ec,AL hA ha hm (qp (lC h) hun hxy hys)]
     have hcut:fc z.apex z.sets s.set.name=true:=(xo _ _ _).2 (by rw[hnh];exact xy hm);have hc' :(if (!(c==[])&& !(bl s.set.name c).1)=true then[]else c)=[]:=by
      rcases hcH with e|e
      . subst e;rfl
      . have:bK s.set.name c=false:=by
         cases hk:bK s.set.name c with
         |false=>rfl
         |true=>exact absurd (ha h hm c e (by rw[<- hnh];exact hk)).symm hch
        rw[hne c e,hu c e,this];rfl
     unfold kb;simp only[hc',hcut];exact hnh
 . have hno:∀x∈dv z,bK s.set.name x=false:=λx hx=>by
    cases hk:bK s.set.name x with
    |false=>rfl
    |true=>exact absurd ⟨x,hx,hk⟩ hex
   rw[BJ hno];have hcut:fc z.apex z.sets s.set.name=false:=by
    cases hk:fc z.apex z.sets s.set.name with
    |false=>rfl
    |true =>
     obtain⟨g,hg,hgu⟩:=hcov _ ((xo _ _ _).1 hk);rw[hno g hg]at hgu;cases hgu
   have hc' :(if (!(c==[])&& !(bl s.set.name c).1)=true then[]else c)=[]:=by
    rcases hcH with e|e
    . subst e;rfl
    . rw[hne c e,hu c e,hno c e];rfl
   unfold kb;simp only[hc',hcut];rfl
theorem GI{z:aB}(ho:Ordered z):∀(l pre:List Signed) (c:Bs),pre++l=z.sets->((pre=[]/\c=[])\/ ∃p y,pre=p++[y]/\c=spec (dv z) y.set.name) ->
 bh (fc z.apex z.sets) c l=l.map λs=>spec (dv z) s.set.name
 |[],_,_,_,_=>rfl
 |s::t,pre,c,hz,hc=>by
  rw[bh,Mp ho hz hc,List.map_cons]
  congr 1
  exact GI ho t (pre++[s]) _ (by rw[<- hz];simp) (.inr ⟨pre,s,rfl,rfl⟩)
theorem KC{z:aB}(ho:Ordered z):GG z=dh z:=by
 rw[tX ho];exact(GI ho z.sets [] [] rfl (.inl ⟨rfl,rfl⟩)).symm
theorem jl:∀{l:List Signed},gu l-> ∀{i j:Nat} {a b:Signed},i<j->l[i]? =some a->l[j]? =some b->cpl a.place b.place<0
 |[],_,_,_,_,_,_,h,_=>by cases h
 |x::t,hr,i,j,a,b,hij,ha,hb=>by
  cases j with
  |zero=>omega
  |succ j =>
   cases i with
   |zero=>cases ha;exact mL hr b (ar hb)
   |succ i=>exact jl hr.tail (by omega) ha hb
theorem nG{a b:Signed}(h:cpl a.place b.place<0):bD a.set.name b.set.name<=0/\(a.set.name=b.set.name->a.set.type<b.set.type):=by
 unfold cpl lex Signed.place at h;simp only at h;split at h
 . rename_i e;refine⟨by omega,λ_=>?_⟩;unfold cR at h;split at h
   . assumption
   . split at h <;> omega
 . rename_i e;exact⟨by omega,λk=>absurd ((cj.zero _ _).2 k) e⟩
theorem Pw{a b:Bs}(h:bD a b<=0)(k:bD b a<=0):a=b:=by
 have:=cj.anti a b;exact(cj.zero _ _).1 (by omega)
theorem CM{z:aB}{i:Nat}{s p:Signed}(hs:z.sets[i]? =some s)(hp:z.sets[i-1]? =some p) :
 nO z i=false ↔ s.set.type=3/\((0<i/\p.set.name=s.set.name)\/ ∃x,z.sets[i+1]? =some x/\x.set.name=s.set.name/\x.set.type≠8):=by
 simp only[nO,hs,hp,Option.getD_some,Bool.not_eq_false'];unfold tV;by_cases hlt:i+1<z.sets.length
 . obtain⟨x,hx⟩:∃x,z.sets[i+1]? =some x:=⟨_,aj hlt⟩
   have hd:decide (((i:Nat):Int)+1<(z.sets.length:Int))=true:=by simp;omega
   simp[hx,hd]
 . have hx:z.sets[i+1]? =none:=by simp;omega
   have hd:decide (((i:Nat):Int)+1<(z.sets.length:Int))=false:=by simp;omega
   simp[hx,hd]
theorem xt{α:Type}{a b:List α}(hl:a.length=b.length)(h:∀i,i<a.length->a[i]? =b[i]?):a=b:=by
 apply List.ext_getElem?;intro i;by_cases hi:i<a.length
 . exact h i hi
 . rw[List.getElem?_eq_none (by omega),List.getElem?_eq_none (by omega)]
theorem zY{α:Type}{a b:List α}{k:Nat}(h:∀i,i<k->a[i]? =b[i]?)(hk:a[k]? =b[k]?):∀i,i<k+1->a[i]? =b[i]? :=λi hi=>by
 rcases Nat.lt_or_eq_of_le (Nat.le_of_lt_succ hi)with h1|rfl
 . exact h i h1
 . exact hk
theorem nc{α:Type}[DecidableEq α]{a b:α}(h:a≠b):AV.d (D.bool false)=AV.d (D.bool (decide (a=b))):=by rw[decide_eq_false h]
theorem Fm{α:Type}[DecidableEq α]{a b:α}(h:a=b):AV.d (D.bool true)=AV.d (D.bool (decide (a=b))):=by rw[decide_eq_true h]
theorem Ef{α β:Type}{f:α->β}{a b:List α}(h:(((a.map f).length:Int) != ((b.map f).length:Int))=false):a.length=b.length:=by
 simp at h;omega
end NP
namespace Go.Proofs.YtodofogcincleaaGreatDoor
open NQ Go NP Go.RowKit
theorem JC(a b:ck)(ha:a.data.length<=100000):NQ.Fn cx 59 [.agg (bJ a),.agg (bJ b)] (.d (.bool (decide (a=b)))) []:=by
 refine aM aV mixed Tryz.func59 (by kernel_rfl) rfl (ag rfl) ?_;conv=>whnf
 (refine af (λh=>?_) (λh=>?_) <;> (rw[h];conv=>whnf))
 . exact al rfl (nc λe=>by subst e;simp at h)
 have h1:a.name=b.name:=by simpa using h
 (refine af (λh=>?_) (λh=>?_) <;> (rw[h];conv=>whnf))
 . exact al rfl (nc λe=>by subst e;simp at h)
 have h2:a.type=b.type:=by simpa using h
 (refine af (λh=>?_) (λh=>?_) <;> (rw[h];conv=>whnf))
 . exact al rfl (nc λe=>by subst e;simp at h)
 have h3:a.life=b.life:=by simpa using h
 (refine af (λh=>?_) (λh=>?_) <;> (rw[h];conv=>whnf))
 . exact al rfl (nc λe=>by subst e;simp at h)
 have h4:=Ef h;refine⟨Nat,λk=>⟨[(2,.ptr 2 0),(3,.ptr 3 0),(5,.d (.int .i64 k))],[(2,.box ((bJ a).map .d)),(3,.box ((bJ b).map .d))]⟩,λk=>k<=a.data.length/\ ∀i,i<k->a.data[i]? =b.data[i]?, λk=>a.data.length-k,⟨0,⟨by omega,λi hi=>by omega⟩,aF.keep ⟨ae,ae,ae,trivial⟩ ⟨ae,ae,trivial⟩⟩,λk ⟨hk,hall⟩=>?_⟩
 conv=>whnf
 refine af (λh1=>?_) (λh1=>?_) <;> (rw[h1];conv=>whnf)
 . have hlt:k<a.data.length:=by simp at h1;omega
   obtain⟨x,hx⟩:∃s,a.data[k]? =some s:=⟨_,aj hlt⟩
   obtain⟨y,hy⟩:∃s,b.data[k]? =some s:=⟨_,aj (by omega)⟩
   (refine⟨(by kernel_rfl:bC _ _=true),?_⟩;conv=>whnf)
   refine⟨aw k,aI x,aD hx,?_⟩
   conv=>whnf
   refine⟨aw k,aI y,aD hy,?_⟩
   conv=>whnf
   (refine af (λh=>?_) (λh=>?_) <;> (rw[h];conv=>whnf))
   . refine al rfl (nc λe=>?_);subst e;rw[hx]at hy;cases hy;simp at h
   . refine⟨k+1,⟨by omega,zY hall ?_⟩,by(show a.data.length-(k+1)<a.data.length-k;omega),aF.keep ⟨ae,ae,⟨an (by omega),rfl⟩,trivial⟩ ⟨ae,ae,trivial⟩⟩;rw[hx,hy];simp at h;cases x;cases y;simp at h ⊢;exact⟨h.1,h.2.1,h.2.2⟩
 . obtain rfl:k=a.data.length:=by simp at h1;omega
   refine al rfl (Fm ?_);have e:=xt h4 hall;cases a;cases b;simp at *; exact⟨by assumption,by assumption,by assumption,e⟩
theorem Ce(a b:Signed)(ha:a.set.data.length<=100000)(hs:a.sigs.length<=100000):NQ.Fn cx 79 [.agg (ak a),.agg (ak b)] (.d (.bool (decide (a=b)))) []:=by
 refine aM aV mixed Tryz.func79 (by kernel_rfl) rfl (ag rfl) ?_;conv=>whnf
 (refine⟨_,_,JC a.set b.set ha,?_⟩;conv=>whnf)
 (refine af (λh=>?_) (λh=>?_) <;> (rw[h];conv=>whnf))
 . exact al rfl (nc λe=>by subst e;simp at h)
 have h1:a.set=b.set:=by simpa using h
 (refine af (λh=>?_) (λh=>?_) <;> (rw[h];conv=>whnf))
 . exact al rfl (nc λe=>by subst e;simp at h)
 have h4:=Ef h;refine⟨Nat,λk=>⟨[(2,.ptr 2 0),(3,.ptr 3 0),(5,.d (.int .i64 k))],[(2,.box ((ak a).map .d)),(3,.box ((ak b).map .d))]⟩,λk=>k<=a.sigs.length/\ ∀i,i<k->a.sigs[i]? =b.sigs[i]?, λk=>a.sigs.length-k,⟨0,⟨by omega,λi hi=>by omega⟩,aF.keep ⟨ae,ae,ae,trivial⟩ ⟨ae,ae,trivial⟩⟩,λk ⟨hk,hall⟩=>?_⟩
 conv=>whnf
 refine af (λh1=>?_) (λh1=>?_) <;> (rw[h1];conv=>whnf)
 . have hlt:k<a.sigs.length:=by simp at h1;omega
   obtain⟨x,hx⟩:∃s,a.sigs[k]? =some s:=⟨_,aj hlt⟩
   obtain⟨y,hy⟩:∃s,b.sigs[k]? =some s:=⟨_,aj (by omega)⟩
   (refine⟨(by kernel_rfl:bC _ _=true),?_⟩;conv=>whnf)
   refine⟨aw k,lH x,aD hx,?_⟩
   conv=>whnf
   refine⟨aw k,lH y,aD hy,?_⟩
   conv=>whnf
   (refine af (λh=>?_) (λh=>?_) <;> (rw[h];conv=>whnf))
   . refine al rfl (nc λe=>?_);subst e;rw[hx]at hy;cases hy;simp at h
   . refine⟨k+1,⟨by omega,zY hall ?_⟩,by(show a.sigs.length-(k+1)<a.sigs.length-k;omega),aF.keep ⟨ae,ae,⟨an (by omega),rfl⟩,trivial⟩ ⟨ae,ae,trivial⟩⟩;rw[hx,hy];simp at h;cases x;cases y;simp at h ⊢;exact h
 . obtain rfl:k=a.sigs.length:=by simp at h1;omega
   refine al rfl (Fm ?_);have e:=xt h4 hall;cases a;cases b;simp at *; exact⟨by assumption,e⟩
theorem Gb(a b:List Signed)(ha:a.length<=100000)(hs:∀s∈a,s.set.data.length<=100000/\s.sigs.length<=100000):NQ.Fn cx 35 [.slice 5 (a.map ak),.slice 5 (b.map ak)] (.d (.bool (decide (a=b)))) []:=by
 refine aM aV mixed Tryz.func35 (by kernel_rfl) rfl (ag rfl) ?_;conv=>whnf
 (refine af (λh=>?_) (λh=>?_) <;> (rw[h];conv=>whnf))
 . exact al rfl (nc λe=>by subst e;simp at h)
 have h4:=Ef h;refine⟨Nat,λk=>⟨[(0,.d (.slice 5 (a.map ak))),(1,.d (.slice 5 (b.map ak))),(5,.d (.int .i64 k))],[]⟩,λk=>k<=a.length/\ ∀i,i<k->a[i]? =b[i]?, λk=>a.length-k,⟨0,⟨by omega,λi hi=>by omega⟩,aF.keep ⟨ae,ae,ae,trivial⟩ trivial⟩,λk ⟨hk,hall⟩=>?_⟩
 conv=>whnf
 refine af (λh1=>?_) (λh1=>?_) <;> (rw[h1];conv=>whnf)
 . have hlt:k<a.length:=by simp at h1;omega
   obtain⟨x,hx⟩:∃s,a[k]? =some s:=⟨_,aj hlt⟩
   obtain⟨y,hy⟩:∃s,b[k]? =some s:=⟨_,aj (by omega)⟩
   have hsm:=hs x (ar hx)
   (refine⟨(by kernel_rfl:bC _ _=true),?_⟩;conv=>whnf)
   refine⟨aw k,ak x,aD hx,?_⟩
   conv=>whnf
   refine⟨aw k,ak y,aD hy,?_⟩
   conv=>whnf
   (refine⟨_,_,Ce x y hsm.1 hsm.2,?_⟩;conv=>whnf)
   (refine af (λh=>?_) (λh=>?_) <;> (rw[h];conv=>whnf))
   . refine al rfl (nc λe=>?_);subst e;rw[hx]at hy;cases hy;simp at h
   . refine⟨k+1,⟨by omega,zY hall ?_⟩,by(show a.length-(k+1)<a.length-k;omega),aF.keep ⟨ae,ae,⟨an (by omega),rfl⟩,trivial⟩ trivial⟩;rw[hx,hy];simp at h;rw[h]
 . obtain rfl:k=a.length:=by simp at h1;omega
   exact al rfl (Fm (xt h4 hall))
theorem wS(a b:aB)(ha:a.sets.length<=100000)(hs:∀s∈a.sets,s.set.data.length<=100000/\s.sigs.length<=100000):NQ.Fn cx 10 [.agg (aG a),.agg (aG b)] (.d (.bool (decide (a=b)))) []:=by
 refine aM aV mixed Tryz.func10 (by kernel_rfl) rfl (ag rfl) ?_;conv=>whnf
 (refine af (λh=>?_) (λh=>?_) <;> (rw[h];conv=>whnf))
 . have h1:a.apex=b.apex:=by simpa using h
   (refine⟨_,_,Gb a.sets b.sets ha hs,?_⟩;conv=>whnf)
   refine al rfl ?_;show AV.d (D.bool (decide (a.sets=b.sets)))=_
   congr 2
   cases a;cases b;simp at h1 ⊢;subst h1;simp
 . exact al rfl (nc λe=>by subst e;simp at h)
end Go.Proofs.YtodofogcincleaaGreatDoor
