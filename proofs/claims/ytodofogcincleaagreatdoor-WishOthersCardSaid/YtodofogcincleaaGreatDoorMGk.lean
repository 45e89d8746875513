/-
  Merged texts.
-/
import Derived.Test.YtodofogcincleaaGreatDoorMGa
import Derived.Test.YtodofogcincleaaGreatDoorQsoM
import Derived.Test.YtodofogcincleaaGreatDoorSortM
set_option linter.all false
set_option maxRecDepth 100000
namespace NP
open NQ Go
def iH(ok:al->Bool)(better:al->al->Bool):Nat->List al->Option (Nat×al)->Option (Nat×al)
 |_,[],b=>b
 |i,p::t,b=>iH ok better (i+1) t (if ok p=true then(match b with|none=>some (i,p)|some x=>if better p x.2=true then some (i,p)else b)else b)
def NX:Option (Nat×al)->Int
 |none=> -1
 |some x=>(x.1:Int)
def eA(ok:al->Bool)(better:al->al->Bool)(i:Nat)(p:al)(b:Option (Nat×al)):Option (Nat×al):=if ok p=true then(match b with|none=>some (i,p)|some x=>if better p x.2=true then some (i,p)else b)else b
theorem JS{ok:al->Bool}{better:al->al->Bool}{l:List al}{k:Nat}{p:al}(h:l[k]? =some p)(b:Option (Nat×al)):iH ok better k (l.drop k) b=iH ok better (k+1) (l.drop (k+1)) (eA ok better k p b):=by
 rw[drop_cons h];rfl
def nw(zs:List al)(b:Option (Nat×al)):Prop:= ∀x,b=some x->zs[x.1]? =some x.2
theorem nw.step{zs:List al}{b:Option (Nat×al)}(h:nw zs b){ok:al->Bool}{better:al->al->Bool}{i:Nat}{p:al}(hp:zs[i]? =some p):nw zs (eA ok better i p b):=by
 intro x hx;unfold eA at hx;split at hx
 . split at hx
   . cases hx;exact hp
   . split at hx
     . cases hx;exact hp
     . exact h x hx
 . exact h x hx
theorem FX{zs:List al}{ok:al->Bool}{better:al->al->Bool}:∀(l:List al) (i:Nat) (b:Option (Nat×al)),(∀j,l[j]? =zs[i+j]?)->nw zs b->nw zs (iH ok better i l b)
 |[],i,b,_,h=>h
 |p::t,i,b,hl,h=>FX t (i+1) _ (λj=>by have:=hl (j+1);simp at this;rw[this];congr 1;omega) (h.step (by have:=hl 0;simpa using this.symm))
theorem As{ok:al->Bool}{better:al->al->Bool}:∀(l:List al) (i:Nat) (b:Option (Nat×al)),iH ok better i l b=none ↔ (b=none/\ ∀p∈l,ok p=false)
 |[],i,b=>by simp[iH]
 |p::t,i,b=>by
  show iH ok better (i+1) t (eA ok better i p b)=none ↔ _
  rw[As t];unfold eA;cases hp:ok p <;> cases b <;> simp[hp];intro h;split at h <;> cases h
def kI(zs:List al)(a:Bs):Option (Nat×al):=iH (λp=>p.zone.apex==a) jC 0 zs none
theorem CJ(zs:List al)(a:Bs):nw zs (kI zs a):=FX zs 0 none (λj=>by rw[Nat.zero_add]) (λx hx=>by cases hx)
def FT(l:List al):List Bs:=l.foldl (λout p=>if out.contains p.zone.apex=true then out else out++[p.zone.apex]) []
theorem yV(a:Bs)(v:D):∀m:List (Bs×D),(bT a v m).map (·.1)=if (m.map (·.1)).contains a=true then m.map (·.1)else m.map (·.1)++[a]
 |[]=>by simp[bT]
 |(b,x)::t=>by
  show(if a=b then _ else _::bT a v t).map (·.1)=_
  by_cases h:a=b
  . subst h;simp
  . rw[if_neg h];simp only[List.map_cons,List.contains_cons];rw[yV a v t];have:(a==b)=false:=by simpa using h
    rw[this,ir];split <;> simp
theorem Mn(l:List al):(apx l).map (·.1)=FT l:=by
 have key:∀(l:List al) (m:List (Bs×D)),(l.foldl (λm p=>bT p.zone.apex (.bool true) m) m).map (·.1)=l.foldl (λout p=>if out.contains p.zone.apex=true then out else out++[p.zone.apex]) (m.map (·.1)):=λl=>by
  induction l with
  |nil=>intro m;rfl
  |cons p t ih=>intro m;simp only[List.foldl_cons];rw[ih,yV]
 exact key l []
theorem mN(l:List al):(apx l).length=(FT l).length:=by rw[<- Mn,an]
def lE(w:aL):Bool:=(w.zones.take 21).all (λp=>nS p.zone&&decide (p.zone.apex.length<=100))&&(w.hosts.take 71).all (λh=>decide (h.name.length<=100))&&decide ((w.zones.length:Int)<=20)&&decide ((w.hosts.length:Int)<=70)&&decide ((w.hints.length:Int)<=20)&&decide ((w.anchor.data.length:Int)<=20)
theorem sj{w:aL}(h:lE w=true):tg w/\w.hosts.length<=70/\w.zones.length<=20/\w.hints.length<=20:=by
 unfold lE at h;simp only[aF,decide_eq_true_eq,ay]at h;obtain⟨⟨⟨⟨⟨h1,h2⟩,h3⟩,h4⟩,h5⟩,h6⟩:=h;have:w.zones.take 21=w.zones:=List.take_of_length_le (by omega);rw[this]at h1;exact⟨⟨by omega,by omega,by omega,λp hp=>(h1 p hp).1⟩,by omega,by omega,by omega⟩
end NP
namespace Go.Proofs.YtodofogcincleaaGreatDoor
open NQ Go NP Go.RowKit
def HU:Nat->List Nat:=fun|7=>[55555]|12=>[55555]|_=>[]
theorem AG(w:aL)(hz:(w.zones.take 21).all (λp=>nS p.zone&&decide (p.zone.apex.length<=100))=true)(hh:(w.hosts.take 71).all (λh=>decide (h.name.length<=100))=true)(st:St)(hs:aC cx st ⟨[(1,.ptr 1 0)],[(1,.box ((bt w).map .d))]⟩) :
 vc cx Tryz.f33.ntmps HU (BY 3 ((Tryz.f33.body).getD .skip)) (fnQ cx Tryz.f33.results.toList (.d (.bool (lE w))) []) st:=by
 conv=>whnf
 refine⟨_,hs,?_⟩
 conv=>whnf
 have e:lE w=(decide ((w.zones.length:Int)<=20)&&decide ((w.hosts.length:Int)<=70)&&decide ((w.hints.length:Int)<=20)&&decide ((w.anchor.data.length:Int)<=20)):=by
  unfold lE;rw[hz,hh];rfl
 repeat' (first|(refine af (λh=>?_) (λh=>?_) <;> (rw[h];conv=>whnf))|fail)
 all_goals (refine aj rfl ?_;show AV.d (D.bool _)=AV.d (D.bool _);congr 2;(try simp only[an]at *);rw[e];simp only[*, if_true,if_false,aI])
theorem CX(w:aL)(hz:(w.zones.take 21).all (λp=>nS p.zone&&decide (p.zone.apex.length<=100))=true)(st:St)(hs:aC cx st ⟨[(1,.ptr 1 0)],[(1,.box ((bt w).map .d))]⟩) :
 vc cx Tryz.f33.ntmps HU (BY 2 ((Tryz.f33.body).getD .skip)) (fnQ cx Tryz.f33.results.toList (.d (.bool (lE w))) []) st:=by
 conv=>whnf
 refine⟨_,hs,?_⟩
 conv=>whnf
 refine⟨Nat,λk=>⟨[(1,.ptr 1 0),(5,.d (.int .i64 k))],[(1,.box ((bt w).map .d))]⟩,λk=>k<=w.hosts.length/\k<=71/\(w.hosts.take k).all (λh=>decide (h.name.length<=100))=true,λk=>w.hosts.length-k,
  ⟨0,⟨Nat.zero_le _,Nat.zero_le _,rfl⟩,aC.keep ⟨ae,ae,trivial⟩ ⟨ae,trivial⟩⟩,λk ⟨hk,hk2,hall⟩=>?_⟩
 conv=>whnf
 refine af (λg1=>?_) (λg1=>?_) <;> (rw[g1];conv=>whnf)
 . have hlt:k<w.hosts.length:=by simpa using g1
   obtain⟨x,hx⟩:∃x,w.hosts[k]? =some x:=⟨_,ai hlt⟩
   refine af (λg2=>?_) (λg2=>?_) <;> (rw[g2];conv=>whnf)
   . have hk3:k<71:=by simp at g2;omega
     refine⟨aw k,eh x,aB hx,?_⟩
     conv=>whnf
     refine af (λg4=>?_) (λg4=>?_) <;> (rw[g4];conv=>whnf)
     . refine aj rfl ?_;have:(w.hosts.take 71).all (λh=>decide (h.name.length<=100))=false:=by
        rw[<- Bool.not_eq_true,ay];intro h;have:=h x (au (i:=k) (by rw[List.getElem?_take,if_pos hk3];exact hx));simp at g4 this;omega
       have:lE w=false:=by unfold lE;rw[this];simp
       rw[this];rfl
     . refine⟨k+1,⟨hlt,by omega,?_⟩,by(show w.hosts.length-(k+1)<w.hosts.length-k;omega),aC.keep ⟨ae,⟨ao (by omega),rfl⟩,trivial⟩ ⟨ae,trivial⟩⟩;rw[bK hx,List.all_append,hall];simp at g4;simp;omega
   . have:k=71:=by simp at g2;omega
     subst this;exact AG w hz hall _ (aC.keep ⟨ae,trivial⟩ ⟨ae,trivial⟩)
 . obtain rfl:k=w.hosts.length:=by simp at g1;omega
   exact AG w hz (by rw[List.take_length]at hall;rw[List.take_of_length_le hk2];exact hall) _ (aC.keep ⟨ae,trivial⟩ ⟨ae,trivial⟩)
theorem PF(w:aL):NQ.Fn cx 33 [.agg (bt w)] (.d (.bool (lE w))) []:=by
 refine eO HU aV mixed Tryz.func33 (by kernel_rfl) rfl (ag rfl) ?_
 conv=>whnf
 refine⟨Nat,λk=>⟨[(1,.ptr 1 0),(3,.d (.int .i64 k))],[(1,.box ((bt w).map .d))]⟩,λk=>k<=w.zones.length/\k<=21/\(w.zones.take k).all (λp=>nS p.zone&&decide (p.zone.apex.length<=100))=true,λk=>w.zones.length-k,
  ⟨0,⟨Nat.zero_le _,Nat.zero_le _,rfl⟩,aC.keep ⟨ae,ae,trivial⟩ ⟨ae,trivial⟩⟩,λk ⟨hk,hk2,hall⟩=>?_⟩
 conv=>whnf
 have no:∀p,w.zones[k]? =some p->k<21->(nS p.zone&&decide (p.zone.apex.length<=100))=false->lE w=false:=λp hp hk hb=>by
  have:(w.zones.take 21).all (λp=>nS p.zone&&decide (p.zone.apex.length<=100))=false:=by
   rw[<- Bool.not_eq_true,ay];intro h;rw[h p (au (i:=k) (by rw[List.getElem?_take,if_pos hk];exact hp))]at hb;cases hb
  unfold lE;rw[this];simp
 refine af (λg1=>?_) (λg1=>?_) <;> (rw[g1];conv=>whnf)
 . have hlt:k<w.zones.length:=by simpa using g1
   obtain⟨x,hx⟩:∃x,w.zones[k]? =some x:=⟨_,ai hlt⟩
   refine af (λg2=>?_) (λg2=>?_) <;> (rw[g2];conv=>whnf)
   . have hk3:k<21:=by simp at g2;omega
     refine⟨aw k,aA x,aB hx,?_⟩
     conv=>whnf
     (refine⟨_,_,Rg x.zone,?_⟩;conv=>whnf)
     refine af (λg3=>?_) (λg3=>?_) <;> (rw[g3];conv=>whnf)
     . refine aj rfl ?_;rw[no x hx hk3 (by simp_all)];rfl
     refine⟨aw k,aA x,aB hx,?_⟩
     conv=>whnf
     refine af (λg4=>?_) (λg4=>?_) <;> (rw[g4];conv=>whnf)
     . refine aj rfl ?_;rw[no x hx hk3 (by simp at g4;simp;omega)];rfl
     . refine⟨k+1,⟨hlt,by omega,?_⟩,by(show w.zones.length-(k+1)<w.zones.length-k;omega),aC.keep ⟨ae,⟨ao (by omega),rfl⟩,trivial⟩ ⟨ae,trivial⟩⟩;rw[bK hx,List.all_append,hall];simp at g3 g4;simp[g3];omega
   . have:k=21:=by simp at g2;omega
     subst this;exact CX w hall _ (aC.keep ⟨ae,trivial⟩ ⟨ae,trivial⟩)
 . obtain rfl:k=w.zones.length:=by simp at g1;omega
   exact CX w (by rw[List.take_length]at hall;rw[List.take_of_length_le hk2];exact hall) _ (aC.keep ⟨ae,trivial⟩ ⟨ae,trivial⟩)
end Go.Proofs.YtodofogcincleaaGreatDoor
namespace NP
open NQ Go
theorem wg{p q:al}(hp:aR p.zone=true)(hq:aR q.zone=true):jC p q=(decide (fb p.zone>fb q.zone)||(decide (fb p.zone=fb q.zone)&&decide (p.host<q.host))):=by
 unfold jC rN;rw[hp,hq];rfl
end NP
namespace Go.Proofs.YtodofogcincleaaGreatDoor
open NQ Go NP Go.RowKit
theorem MF(zs:List al)(a:Bs)(hz:∀p∈zs,aR p.zone=true)(hl:zs.length<=100000):NQ.Fn cx 9 [.slice 3 (zs.map aA),.str a] (.d (.int .i64 (NX (kI zs a)))) []:=by
 refine aK aV mixed Tryz.func9 (by kernel_rfl) rfl (ag rfl) ?_;conv=>whnf
 refine⟨Nat×Option (Nat×al),λx=>⟨[(0,.d (.slice 3 (zs.map aA))),(1,.d (.str a)),(5,.d (.int .i64 (NX x.2))),(6,.d (.int .i64 x.1))],[]⟩,
  λx=>x.1<=zs.length/\nw zs x.2/\iH (λp=>p.zone.apex==a) jC x.1 (zs.drop x.1) x.2=kI zs a,λx=>zs.length-x.1,
  ⟨(0,none),⟨Nat.zero_le _,(λx hx=>by cases hx),rfl⟩,aC.keep ⟨ae,ae,ae,ae,trivial⟩ trivial⟩,λ⟨k,b⟩ ⟨hk,hb,hinv⟩=>?_⟩
 dsimp only at hk hb hinv ⊢
 conv=>whnf
 refine af (λh1=>?_) (λh1=>?_) <;> (rw[h1];conv=>whnf)
 . have hlt:k<zs.length:=by simpa using h1
   obtain⟨p,hp⟩:∃p,zs[k]? =some p:=⟨_,ai hlt⟩
   have hpv:=hz p (au hp);rw[JS hp]at hinv;have next:∀b',b' =eA (λp=>p.zone.apex==a) jC k p b->(k+1<=zs.length/\nw zs b' /\iH (λp=>p.zone.apex==a) jC (k+1) (zs.drop (k+1)) b' =kI zs a):=λb' e=>by
    rw[e];exact⟨hlt,hb.step hp,hinv⟩
   refine⟨aw k,aA p,aB hp,?_⟩
   conv=>whnf
   refine af (λh2=>?_) (λh2=>?_) <;> (rw[h2];conv=>whnf)
   . exact⟨(k+1,b),next _ (by unfold eA;rw[if_neg (by simpa using h2)]),by(show zs.length-(k+1)<zs.length-k;omega),aC.keep ⟨ae,ae,ae,⟨ao (by omega),rfl⟩,trivial⟩ trivial⟩
   have ha:(p.zone.apex==a)=true:=by simpa using h2
   cases b with
   |none =>
    conv=>whnf
    exact⟨(k+1,some (k,p)),next _ (by unfold eA;rw[if_pos ha]),by(show zs.length-(k+1)<zs.length-k;omega),aC.keep ⟨ae,ae,ae,⟨ao (by omega),rfl⟩,trivial⟩ trivial⟩
   |some x =>
    have hx:=hb x rfl;have hxv:=hz x.2 (au hx);have hnew:=wg hpv hxv
    conv=>whnf
    refine⟨aw k,aA p,aB hp,?_⟩
    conv=>whnf
    (refine⟨_,_,qT p.zone hpv,?_⟩;conv=>whnf)
    refine⟨aw x.1,aA x.2,aB hx,?_⟩
    conv=>whnf
    (refine⟨_,_,qT x.2.zone hxv,?_⟩;conv=>whnf)
    (refine⟨(by kernel_rfl:bE _ _=true),?_⟩;conv=>whnf)
    repeat' (first
     |(refine af (λh=>?_) (λh=>?_) <;> (rw[h];conv=>whnf))
     |(refine⟨aw k,aA p,aB hp,?_⟩;conv=>whnf)
     |(refine⟨aw x.1,aA x.2,aB hx,?_⟩;conv=>whnf)
     |fail)
    all_goals first
     |(refine⟨(k+1,some (k,p)),next _ (by unfold eA;rw[if_pos ha];dsimp only;rw[if_pos (by rw[hnew];simp_all;done)]),by(show zs.length-(k+1)<zs.length-k;omega),aC.keep ⟨ae,ae,ae,⟨ao (by omega),rfl⟩,trivial⟩ trivial⟩;done)
     |(refine⟨(k+1,some x),next _ (by unfold eA;rw[if_pos ha];dsimp only;rw[if_neg (by rw[hnew];simp_all;done)]),by(show zs.length-(k+1)<zs.length-k;omega),aC.keep ⟨ae,ae,ae,⟨ao (by omega),rfl⟩,trivial⟩ trivial⟩;done)
     |(refine⟨(k+1,some x),next _ (by unfold eA;rw[if_pos ha];dsimp only;rw[if_neg (by rw[hnew];simp_all;omega)]),by(show zs.length-(k+1)<zs.length-k;omega),aC.keep ⟨ae,ae,ae,⟨ao (by omega),rfl⟩,trivial⟩ trivial⟩;done)
 . obtain rfl:k=zs.length:=by simp at h1;omega
   refine aj rfl ?_;rw[<- hinv,List.drop_length];rfl
theorem uK(w:aL)(hF:tg w):NQ.Fn cx 55 [.agg (bt w)] (.d (.bool (eG w))) []:=LQ w (by have:=hF.hosts;omega) (by have:=hF.zones;omega) (by have:=hF.hints;omega)
end Go.Proofs.YtodofogcincleaaGreatDoor
