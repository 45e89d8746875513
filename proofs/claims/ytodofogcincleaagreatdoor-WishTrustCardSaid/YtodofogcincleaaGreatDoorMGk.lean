/-
  Merged texts.
-/
import Derived.Test.YtodofogcincleaaGreatDoorMGa
import Derived.Test.YtodofogcincleaaGreatDoorQsoM
import Derived.Test.YtodofogcincleaaGreatDoorSortM
set_option linter.all false
set_option maxRecDepth 100000
namespace Go.Proofs.YtodofogcincleaaGreatDoor
open NQ Go.RowKit
def jP(ok:ao->Bool)(better:ao->ao->Bool):Nat->List ao->Option (Nat×ao)->Option (Nat×ao)
 |_,[],b=>b
 |i,p::t,b=>jP ok better (i+1) t (if ok p=true then(match b with|none=>some (i,p)|some x=>if better p x.2=true then some (i,p)else b)else b)
def Ln:Option (Nat×ao)->Int
 |none=> -1
 |some x=>(x.1:Int)
def fD(ok:ao->Bool)(better:ao->ao->Bool)(i:Nat)(p:ao)(b:Option (Nat×ao)):Option (Nat×ao):=if ok p=true then(match b with|none=>some (i,p)|some x=>if better p x.2=true then some (i,p)else b)else b
theorem Mz{ok:ao->Bool}{better:ao->ao->Bool}{l:List ao}{k:Nat}{p:ao}(h:l[k]? =some p)(b:Option (Nat×ao)):jP ok better k (l.drop k) b=jP ok better (k+1) (l.drop (k+1)) (fD ok better k p b):=by
 rw[drop_cons h];rfl
def oU(zs:List ao)(b:Option (Nat×ao)):Prop:= ∀x,b=some x->zs[x.1]? =some x.2
theorem oU.step{zs:List ao}{b:Option (Nat×ao)}(h:oU zs b){ok:ao->Bool}{better:ao->ao->Bool}{i:Nat}{p:ao}(hp:zs[i]? =some p):oU zs (fD ok better i p b):=by
 intro x hx;unfold fD at hx;split at hx
 .split at hx
  .cases hx;exact hp
  .split at hx
   .cases hx;exact hp
   .exact h x hx
 .exact h x hx
theorem IW{zs:List ao}{ok:ao->Bool}{better:ao->ao->Bool}:∀(l:List ao) (i:Nat) (b:Option (Nat×ao)),(∀j,l[j]? =zs[i+j]?)->oU zs b->oU zs (jP ok better i l b)
 |[],i,b,_,h=>h
 |p::t,i,b,hl,h=>IW t (i+1) _ (λj=>by have:=hl (j+1);simp at this;rw[this];congr 1;omega) (h.step (by have:=hl 0;simpa using this.symm))
theorem Ct{ok:ao->Bool}{better:ao->ao->Bool}:∀(l:List ao) (i:Nat) (b:Option (Nat×ao)),jP ok better i l b=none ↔ (b=none/\ ∀p∈l,ok p=false)
 |[],i,b=>by simp[jP]
 |p::t,i,b=>by
  show jP ok better (i+1) t (fD ok better i p b)=none ↔ _
  rw[Ct t];unfold fD;cases hp:ok p <;> cases b <;> simp[hp];intro h;split at h <;> cases h
def gh(zs:List ao)(a:Bs):Option (Nat×ao):=jP (λp=>p.ah.af==a) kR 0 zs none
theorem ES(zs:List ao)(a:Bs):oU zs (gh zs a):=IW zs 0 none (λj=>by rw[Nat.zero_add]) (λx hx=>by cases hx)
def mW(w:aZ):Bool:=(w.ai.take 21).all (λp=>pC p.ah&&decide (p.ah.af.length<=100))&&(w.ay.take 71).all (λh=>decide (h.name.length<=100))&&decide ((w.ai.length:Int)<=20)&&decide ((w.ay.length:Int)<=70)&&decide ((w.hints.length:Int)<=20)&&decide ((w.anchor.data.length:Int)<=20)
theorem ub{w:aZ}(h:mW w=true):va w/\w.ay.length<=70/\w.ai.length<=20/\w.hints.length<=20:=by
 unfold mW at h;simp only[aU,decide_eq_true_eq,aI]at h;obtain⟨⟨⟨⟨⟨h1,h2⟩,h3⟩,h4⟩,h5⟩,h6⟩:=h;have:w.ai.take 21=w.ai:=List.take_of_length_le (by omega);rw[this]at h1;exact⟨⟨by omega,by omega,by omega,λp hp=>(h1 p hp).1⟩,by omega,by omega,by omega⟩
def KG:Nat->List Nat:=fun|7=>[55555]|12=>[55555]|_=>[]
theorem CG(w:aZ)(hz:(w.ai.take 21).all (λp=>pC p.ah&&decide (p.ah.af.length<=100))=true)(hh:(w.ay.take 71).all (λh=>decide (h.name.length<=100))=true)(st:St)(hs:aK cx st ⟨[(1,.ptr 1 0)],[(1,.box ((bu w).map .d))]⟩) :
 vc cx Tryz.f33.ntmps KG (Ec 3 ((Tryz.f33.body).getD .skip)) (fnQ cx Tryz.f33.results.toList (.d (.bool (mW w))) []) st:=by
 conv=>whnf
 refine⟨_,hs,?_⟩;conv=>whnf
 have e:mW w=(decide ((w.ai.length:Int)<=20)&&decide ((w.ay.length:Int)<=70)&&decide ((w.hints.length:Int)<=20)&&decide ((w.anchor.data.length:Int)<=20)):=by
  unfold mW;rw[hz,hh];rfl
 repeat' (first|(refine aj (λh=>?_) (λh=>?_) <;> (rw[h];conv=>whnf))|fail)
 all_goals (refine al rfl ?_;show AV.d (D.bool _)=AV.d (D.bool _);congr 2;(try simp only[aA]at *);rw[e];simp only[*, if_true,if_false,aY])
theorem Fi(w:aZ)(hz:(w.ai.take 21).all (λp=>pC p.ah&&decide (p.ah.af.length<=100))=true)(st:St)(hs:aK cx st ⟨[(1,.ptr 1 0)],[(1,.box ((bu w).map .d))]⟩) :
 vc cx Tryz.f33.ntmps KG (Ec 2 ((Tryz.f33.body).getD .skip)) (fnQ cx Tryz.f33.results.toList (.d (.bool (mW w))) []) st:=by
 conv=>whnf
 refine⟨_,hs,?_⟩;conv=>whnf
 refine⟨Nat,λk=>⟨[(1,.ptr 1 0),(5,.d (.int .i64 k))],[(1,.box ((bu w).map .d))]⟩,λk=>k<=w.ay.length/\k<=71/\(w.ay.take k).all (λh=>decide (h.name.length<=100))=true,λk=>w.ay.length-k,
  ⟨0,⟨Nat.zero_le _,Nat.zero_le _,rfl⟩,aK.keep ⟨ae,ae,trivial⟩ ⟨ae,trivial⟩⟩,λk ⟨hk,hi,hc⟩=>?_⟩
 conv=>whnf
 refine aj (λg1=>?_) (λg1=>?_) <;> (rw[g1];conv=>whnf)
 .have hd:k<w.ay.length:=by simpa using g1
  obtain⟨x,hx⟩:∃x,w.ay[k]? =some x:=⟨_,au hd⟩
  refine aj (λg2=>?_) (λg2=>?_) <;> (rw[g2];conv=>whnf)
  .have hg:k<71:=by simp at g2;omega
   refine⟨aC k,fJ x,aM hx,?_⟩;conv=>whnf
   refine aj (λg4=>?_) (λg4=>?_) <;> (rw[g4];conv=>whnf)
   .refine al rfl ?_;have:(w.ay.take 71).all (λh=>decide (h.name.length<=100))=false:=by
     rw[<- Bool.not_eq_true,aI];intro h;have:=h x (aD (i:=k) (by rw[List.getElem?_take,if_pos hg];exact hx));simp at g4 this;omega
    have:mW w=false:=by unfold mW;rw[this];simp
    rw[this];rfl
   .refine⟨k+1,⟨hd,by omega,?_⟩,by(show w.ay.length-(k+1)<w.ay.length-k;omega),aK.keep ⟨ae,⟨ax (by omega),rfl⟩,trivial⟩ ⟨ae,trivial⟩⟩;rw[bO hx,List.all_append,hc];simp at g4;simp;omega
  .have:k=71:=by simp at g2;omega
   subst this;exact CG w hz hc _ (aK.keep ⟨ae,trivial⟩ ⟨ae,trivial⟩)
 .obtain rfl:k=w.ay.length:=by simp at g1;omega
  exact CG w hz (by rw[List.take_length]at hc;rw[List.take_of_length_le hi];exact hc) _ (aK.keep ⟨ae,trivial⟩ ⟨ae,trivial⟩)
theorem Sw(w:aZ):NQ.Fn cx 33 [.agg (bu w)] (.d (.bool (mW w))) []:=by
 refine eR KG bo mixed Tryz.func33 ?_;conv=>whnf
 refine⟨Nat,λk=>⟨[(1,.ptr 1 0),(3,.d (.int .i64 k))],[(1,.box ((bu w).map .d))]⟩,λk=>k<=w.ai.length/\k<=21/\(w.ai.take k).all (λp=>pC p.ah&&decide (p.ah.af.length<=100))=true,λk=>w.ai.length-k,
  ⟨0,⟨Nat.zero_le _,Nat.zero_le _,rfl⟩,aK.keep ⟨ae,ae,trivial⟩ ⟨ae,trivial⟩⟩,λk ⟨hk,hi,hc⟩=>?_⟩
 conv=>whnf
 have no:∀p,w.ai[k]? =some p->k<21->(pC p.ah&&decide (p.ah.af.length<=100))=false->mW w=false:=λp hp hk hb=>by
  have:(w.ai.take 21).all (λp=>pC p.ah&&decide (p.ah.af.length<=100))=false:=by
   rw[<- Bool.not_eq_true,aI];intro h;rw[h p (aD (i:=k) (by rw[List.getElem?_take,if_pos hk];exact hp))]at hb;cases hb
  unfold mW;rw[this];simp
 refine aj (λg1=>?_) (λg1=>?_) <;> (rw[g1];conv=>whnf)
 .have hd:k<w.ai.length:=by simpa using g1
  obtain⟨x,hx⟩:∃x,w.ai[k]? =some x:=⟨_,au hd⟩
  refine aj (λg2=>?_) (λg2=>?_) <;> (rw[g2];conv=>whnf)
  .have hg:k<21:=by simp at g2;omega
   refine⟨aC k,aR x,aM hx,?_⟩;conv=>whnf
   (refine⟨_,_,TW x.ah,?_⟩;conv=>whnf)
   refine aj (λg3=>?_) (λg3=>?_) <;> (rw[g3];conv=>whnf)
   .refine al rfl ?_;rw[no x hx hg (by simp_all)];rfl
   refine⟨aC k,aR x,aM hx,?_⟩;conv=>whnf
   refine aj (λg4=>?_) (λg4=>?_) <;> (rw[g4];conv=>whnf)
   .refine al rfl ?_;rw[no x hx hg (by simp at g4;simp;omega)];rfl
   .refine⟨k+1,⟨hd,by omega,?_⟩,by(show w.ai.length-(k+1)<w.ai.length-k;omega),aK.keep ⟨ae,⟨ax (by omega),rfl⟩,trivial⟩ ⟨ae,trivial⟩⟩;rw[bO hx,List.all_append,hc];simp at g3 g4;simp[g3];omega
  .have:k=21:=by simp at g2;omega
   subst this;exact Fi w hc _ (aK.keep ⟨ae,trivial⟩ ⟨ae,trivial⟩)
 .obtain rfl:k=w.ai.length:=by simp at g1;omega
  exact Fi w (by rw[List.take_length]at hc;rw[List.take_of_length_le hi];exact hc) _ (aK.keep ⟨ae,trivial⟩ ⟨ae,trivial⟩)
theorem yk{p q:ao}(hp:bf p.ah=true)(hq:bf q.ah=true):kR p q=(decide (fP p.ah>fP q.ah)||(decide (fP p.ah=fP q.ah)&&decide (p.host<q.host))):=by
 unfold kR tz;rw[hp,hq];rfl
theorem EU(zs:List ao)(a:Bs)(hz:∀p∈zs,bf p.ah=true)(hl:zs.length<=100000):NQ.Fn cx 9 [.slice 3 (zs.map aR),.str a] (.d (.int .i64 (Ln (gh zs a)))) []:=by
 refine aT bo mixed Tryz.func9 ?_;conv=>whnf
 refine⟨Nat×Option (Nat×ao),λx=>⟨[(0,.d (.slice 3 (zs.map aR))),(1,.d (.str a)),(5,.d (.int .i64 (Ln x.2))),(6,.d (.int .i64 x.1))],[]⟩,
  λx=>x.1<=zs.length/\oU zs x.2/\jP (λp=>p.ah.af==a) kR x.1 (zs.drop x.1) x.2=gh zs a,λx=>zs.length-x.1,
  ⟨(0,none),⟨Nat.zero_le _,(λx hx=>by cases hx),rfl⟩,aK.keep ⟨ae,ae,ae,ae,trivial⟩ trivial⟩,λ⟨k,b⟩ ⟨hk,hb,hinv⟩=>?_⟩
 dsimp only at hk hb hinv ⊢;conv=>whnf
 refine aj (λh1=>?_) (λh1=>?_) <;> (rw[h1];conv=>whnf)
 .have hd:k<zs.length:=by simpa using h1
  obtain⟨p,hp⟩:∃p,zs[k]? =some p:=⟨_,au hd⟩
  have hj:=hz p (aD hp);rw[Mz hp]at hinv;have next:∀b',b' =fD (λp=>p.ah.af==a) kR k p b->(k+1<=zs.length/\oU zs b' /\jP (λp=>p.ah.af==a) kR (k+1) (zs.drop (k+1)) b' =gh zs a):=λb' e=>by
   rw[e];exact⟨hd,hb.step hp,hinv⟩
  refine⟨aC k,aR p,aM hp,?_⟩;conv=>whnf
  refine aj (λh2=>?_) (λh2=>?_) <;> (rw[h2];conv=>whnf)
  .exact⟨(k+1,b),next _ (by unfold fD;rw[if_neg (by simpa using h2)]),by(show zs.length-(k+1)<zs.length-k;omega),aK.keep ⟨ae,ae,ae,⟨ax (by omega),rfl⟩,trivial⟩ trivial⟩
  have ha:(p.ah.af==a)=true:=by simpa using h2
  cases b with
  |none =>
   conv=>whnf
   exact⟨(k+1,some (k,p)),next _ (by unfold fD;rw[if_pos ha]),by(show zs.length-(k+1)<zs.length-k;omega),aK.keep ⟨ae,ae,ae,⟨ax (by omega),rfl⟩,trivial⟩ trivial⟩
  |some x =>
   have hx:=hb x rfl;have hn:=hz x.2 (aD hx);have hf:=yk hj hn;conv=>whnf
   refine⟨aC k,aR p,aM hp,?_⟩;conv=>whnf
   (refine⟨_,_,sB p.ah hj,?_⟩;conv=>whnf)
   refine⟨aC x.1,aR x.2,aM hx,?_⟩;conv=>whnf
   (refine⟨_,_,sB x.2.ah hn,?_⟩;conv=>whnf)
   (refine bV ?_;conv=>whnf)
   repeat' (first
    |(refine aj (λh=>?_) (λh=>?_) <;> (rw[h];conv=>whnf))
    |(refine⟨aC k,aR p,aM hp,?_⟩;conv=>whnf)
    |(refine⟨aC x.1,aR x.2,aM hx,?_⟩;conv=>whnf)
    |fail)
   all_goals first
    |(refine⟨(k+1,some (k,p)),next _ (by unfold fD;rw[if_pos ha];dsimp only;rw[if_pos (by rw[hf];simp_all;done)]),by(show zs.length-(k+1)<zs.length-k;omega),aK.keep ⟨ae,ae,ae,⟨ax (by omega),rfl⟩,trivial⟩ trivial⟩;done)
    |(refine⟨(k+1,some x),next _ (by unfold fD;rw[if_pos ha];dsimp only;rw[if_neg (by rw[hf];simp_all;done)]),by(show zs.length-(k+1)<zs.length-k;omega),aK.keep ⟨ae,ae,ae,⟨ax (by omega),rfl⟩,trivial⟩ trivial⟩;done)
    |(refine⟨(k+1,some x),next _ (by unfold fD;rw[if_pos ha];dsimp only;rw[if_neg (by rw[hf];simp_all;omega)]),by(show zs.length-(k+1)<zs.length-k;omega),aK.keep ⟨ae,ae,ae,⟨ax (by omega),rfl⟩,trivial⟩ trivial⟩;done)
 .obtain rfl:k=zs.length:=by simp at h1;omega
  refine al rfl ?_;rw[<- hinv,List.drop_length];rfl
theorem wP(w:aZ)(hF:va w):NQ.Fn cx 55 [.agg (bu w)] (.d (.bool (fm w))) []:=OJ w (by have:=hF.ay;omega) (by have:=hF.ai;omega) (by have:=hF.hints;omega)
end Go.Proofs.YtodofogcincleaaGreatDoor
