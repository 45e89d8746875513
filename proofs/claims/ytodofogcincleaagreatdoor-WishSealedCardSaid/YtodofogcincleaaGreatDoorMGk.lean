/-
  Merged texts.
-/
import Derived.Test.YtodofogcincleaaGreatDoorMGa
import Derived.Test.YtodofogcincleaaGreatDoorQsoM
import Derived.Test.YtodofogcincleaaGreatDoorSortM
set_option linter.all false
set_option maxRecDepth 100000
namespace NP
open NQ Go
def iy(ok:ai->Bool)(better:ai->ai->Bool):Nat->List ai->Option (Nat×ai)->Option (Nat×ai)
 |_,[],b=>b
 |i,p::t,b=>iy ok better (i+1) t (if ok p=true then(match b with|none=>some (i,p)|some x=>if better p x.2=true then some (i,p)else b)else b)
def OG:Option (Nat×ai)->Int
 |none=> -1
 |some x=>(x.1:Int)
def dO(ok:ai->Bool)(better:ai->ai->Bool)(i:Nat)(p:ai)(b:Option (Nat×ai)):Option (Nat×ai):=if ok p=true then(match b with|none=>some (i,p)|some x=>if better p x.2=true then some (i,p)else b)else b
theorem KD{ok:ai->Bool}{better:ai->ai->Bool}{l:List ai}{k:Nat}{p:ai}(h:l[k]? =some p)(b:Option (Nat×ai)):iy ok better k (l.drop k) b=iy ok better (k+1) (l.drop (k+1)) (dO ok better k p b):=by
 rw[drop_cons h];rfl
def oa(zs:List ai)(b:Option (Nat×ai)):Prop:= ∀x,b=some x->zs[x.1]? =some x.2
theorem oa.step{zs:List ai}{b:Option (Nat×ai)}(h:oa zs b){ok:ai->Bool}{better:ai->ai->Bool}{i:Nat}{p:ai}(hp:zs[i]? =some p):oa zs (dO ok better i p b):=by
 intro x hx;unfold dO at hx;split at hx
 . split at hx
   . cases hx;exact hp
   . split at hx
     . cases hx;exact hp
     . exact h x hx
 . exact h x hx
theorem GH{zs:List ai}{ok:ai->Bool}{better:ai->ai->Bool}:∀(l:List ai) (i:Nat) (b:Option (Nat×ai)),(∀j,l[j]? =zs[i+j]?)->oa zs b->oa zs (iy ok better i l b)
 |[],i,b,_,h=>h
 |p::t,i,b,hl,h=>GH t (i+1) _ (λj=>by have:=hl (j+1);simp at this;rw[this];congr 1;omega) (h.step (by have:=hl 0;simpa using this.symm))
theorem AW{ok:ai->Bool}{better:ai->ai->Bool}:∀(l:List ai) (i:Nat) (b:Option (Nat×ai)),iy ok better i l b=none ↔ (b=none/\ ∀p∈l,ok p=false)
 |[],i,b=>by simp[iy]
 |p::t,i,b=>by
  show iy ok better (i+1) t (dO ok better i p b)=none ↔ _
  rw[AW t];unfold dO;cases hp:ok p <;> cases b <;> simp[hp];intro h;split at h <;> cases h
theorem pL{ok:ai->Bool}{key:ai->Int}:∀(l:List ai) (i:Nat) (b:Option (Nat×ai)) (x:Nat×ai),iy ok (λp q=>decide (key q<key p)) i l b=some x ->
 (b=some x\/(x.2∈l/\ok x.2=true))/\(∀y,b=some y->key y.2<=key x.2)/\ ∀p∈l,ok p=true->key p<=key x.2
 |[],i,b,x,h=>by cases h;exact⟨.inl rfl,λy hy=>by cases hy;exact Int.le_refl _,λp hp=>by cases hp⟩
 |p::t,i,b,x,h=>by
  obtain⟨h1,h2,h3⟩:=pL t (i+1) (dO ok (λp q=>decide (key q<key p)) i p b) x h;unfold dO at h1 h2;by_cases hp:ok p=true
  . rw[if_pos hp]at h1 h2;cases b with
    |none =>
     refine⟨.inr ?_,λy hy=>(by cases hy),λq hq hoq=>?_⟩
     . rcases h1 with h1|h1
       . cases h1;exact⟨List.mem_cons_self .., hp⟩
       . exact⟨aZ _ h1.1,h1.2⟩
     . rcases List.mem_cons.1 hq with rfl|hq
       . exact h2 (i,q) rfl
       . exact h3 q hq hoq
    |some y =>
     dsimp only at h1 h2;by_cases hb:key y.2<key p
     . rw[if_pos (decide_eq_true hb)]at h1 h2;have hpx:=h2 (i,p) rfl;refine⟨.inr ?_,λz hz=>by cases hz;dsimp only at hpx;omega,λq hq hoq=>?_⟩
       . rcases h1 with h1|h1
         . cases h1;exact⟨List.mem_cons_self .., hp⟩
         . exact⟨aZ _ h1.1,h1.2⟩
       . rcases List.mem_cons.1 hq with rfl|hq
         . exact hpx
         . exact h3 q hq hoq
     . rw[if_neg (by simpa using hb)]at h1 h2;have hyx:=h2 y rfl;refine⟨?_,λz hz=>h2 z hz,λq hq hoq=>?_⟩
       . rcases h1 with h1|h1
         . exact .inl h1
         . exact .inr ⟨aZ _ h1.1,h1.2⟩
       . rcases List.mem_cons.1 hq with rfl|hq
         . omega
         . exact h3 q hq hoq
  . rw[if_neg hp]at h1 h2;refine⟨?_,h2,λq hq hoq=>?_⟩
    . rcases h1 with h1|h1
      . exact .inl h1
      . exact .inr ⟨aZ _ h1.1,h1.2⟩
    . rcases List.mem_cons.1 hq with rfl|hq
      . exact absurd hoq hp
      . exact h3 q hq hoq
def fq(zs:List ai)(a:Bs):Option (Nat×ai):=iy (λp=>p.zone.apex==a) jR 0 zs none
theorem Nk(zs:List ai)(a:Bs):oa zs (fq zs a):=GH zs 0 none (λj=>by rw[Nat.zero_add]) (λx hx=>by cases hx)
def GC(l:List ai):List Bs:=l.foldl (λout p=>if out.contains p.zone.apex=true then out else out++[p.zone.apex]) []
theorem zB(a:Bs)(v:D):∀m:List (Bs×D),(bS a v m).map (·.1)=if (m.map (·.1)).contains a=true then m.map (·.1)else m.map (·.1)++[a]
 |[]=>by simp[bS]
 |(b,x)::t=>by
  show(if a=b then _ else _::bS a v t).map (·.1)=_
  by_cases h:a=b
  . subst h;simp
  . rw[if_neg h];simp only[List.map_cons,List.contains_cons];rw[zB a v t];have:(a==b)=false:=by simpa using h
    rw[this,iJ];split <;> simp
theorem MS(l:List ai):(apx l).map (·.1)=GC l:=by
 have key:∀(l:List ai) (m:List (Bs×D)),(l.foldl (λm p=>bS p.zone.apex (.bool true) m) m).map (·.1)=l.foldl (λout p=>if out.contains p.zone.apex=true then out else out++[p.zone.apex]) (m.map (·.1)):=λl=>by
  induction l with
  |nil=>intro m;rfl
  |cons p t ih=>intro m;simp only[List.foldl_cons];rw[ih,zB]
 exact key l []
theorem nw(l:List ai):(apx l).length=(GC l).length:=by rw[<- MS,ao]
def mi(w:aL):Bool:=(w.zones.take 21).all (λp=>oL p.zone&&decide (p.zone.apex.length<=100))&&(w.hosts.take 71).all (λh=>decide (h.name.length<=100))&&decide ((w.zones.length:Int)<=20)&&decide ((w.hosts.length:Int)<=70)&&decide ((w.hints.length:Int)<=20)&&decide ((w.anchor.data.length:Int)<=20)
theorem sP{w:aL}(h:mi w=true):tR w/\w.hosts.length<=70/\w.zones.length<=20/\w.hints.length<=20:=by
 unfold mi at h;simp only[aH,decide_eq_true_eq,ay]at h;obtain⟨⟨⟨⟨⟨h1,h2⟩,h3⟩,h4⟩,h5⟩,h6⟩:=h;have:w.zones.take 21=w.zones:=List.take_of_length_le (by omega);rw[this]at h1;exact⟨⟨by omega,by omega,by omega,λp hp=>(h1 p hp).1⟩,by omega,by omega,by omega⟩
end NP
namespace Go.Proofs.YtodofogcincleaaGreatDoor
open NQ Go NP Go.RowKit
def IP:Nat->List Nat:=fun|7=>[55555]|12=>[55555]|_=>[]
theorem Bh(w:aL)(hz:(w.zones.take 21).all (λp=>oL p.zone&&decide (p.zone.apex.length<=100))=true)(hh:(w.hosts.take 71).all (λh=>decide (h.name.length<=100))=true)(st:St)(hs:aF cx st ⟨[(1,.ptr 1 0)],[(1,.box ((bn w).map .d))]⟩) :
 vc cx Tryz.f33.ntmps IP (CB 3 ((Tryz.f33.body).getD .skip)) (fnQ cx Tryz.f33.results.toList (.d (.bool (mi w))) []) st:=by
 conv=>whnf
 refine⟨_,hs,?_⟩
 conv=>whnf
 have e:mi w=(decide ((w.zones.length:Int)<=20)&&decide ((w.hosts.length:Int)<=70)&&decide ((w.hints.length:Int)<=20)&&decide ((w.anchor.data.length:Int)<=20)):=by
  unfold mi;rw[hz,hh];rfl
 repeat' (first|(refine af (λh=>?_) (λh=>?_) <;> (rw[h];conv=>whnf))|fail)
 all_goals (refine al rfl ?_;show AV.d (D.bool _)=AV.d (D.bool _);congr 2;(try simp only[ao]at *);rw[e];simp only[*, if_true,if_false,aK])
theorem Dz(w:aL)(hz:(w.zones.take 21).all (λp=>oL p.zone&&decide (p.zone.apex.length<=100))=true)(st:St)(hs:aF cx st ⟨[(1,.ptr 1 0)],[(1,.box ((bn w).map .d))]⟩) :
 vc cx Tryz.f33.ntmps IP (CB 2 ((Tryz.f33.body).getD .skip)) (fnQ cx Tryz.f33.results.toList (.d (.bool (mi w))) []) st:=by
 conv=>whnf
 refine⟨_,hs,?_⟩
 conv=>whnf
 refine⟨Nat,λk=>⟨[(1,.ptr 1 0),(5,.d (.int .i64 k))],[(1,.box ((bn w).map .d))]⟩,λk=>k<=w.hosts.length/\k<=71/\(w.hosts.take k).all (λh=>decide (h.name.length<=100))=true,λk=>w.hosts.length-k,
  ⟨0,⟨Nat.zero_le _,Nat.zero_le _,rfl⟩,aF.keep ⟨ae,ae,trivial⟩ ⟨ae,trivial⟩⟩,λk ⟨hk,hk2,hall⟩=>?_⟩
 conv=>whnf
 refine af (λg1=>?_) (λg1=>?_) <;> (rw[g1];conv=>whnf)
 . have hlt:k<w.hosts.length:=by simpa using g1
   obtain⟨x,hx⟩:∃x,w.hosts[k]? =some x:=⟨_,aj hlt⟩
   refine af (λg2=>?_) (λg2=>?_) <;> (rw[g2];conv=>whnf)
   . have hk3:k<71:=by simp at g2;omega
     refine⟨aw k,eN x,aD hx,?_⟩
     conv=>whnf
     refine af (λg4=>?_) (λg4=>?_) <;> (rw[g4];conv=>whnf)
     . refine al rfl ?_;have:(w.hosts.take 71).all (λh=>decide (h.name.length<=100))=false:=by
        rw[<- Bool.not_eq_true,ay];intro h;have:=h x (ar (i:=k) (by rw[List.getElem?_take,if_pos hk3];exact hx));simp at g4 this;omega
       have:mi w=false:=by unfold mi;rw[this];simp
       rw[this];rfl
     . refine⟨k+1,⟨hlt,by omega,?_⟩,by(show w.hosts.length-(k+1)<w.hosts.length-k;omega),aF.keep ⟨ae,⟨an (by omega),rfl⟩,trivial⟩ ⟨ae,trivial⟩⟩;rw[bU hx,List.all_append,hall];simp at g4;simp;omega
   . have:k=71:=by simp at g2;omega
     subst this;exact Bh w hz hall _ (aF.keep ⟨ae,trivial⟩ ⟨ae,trivial⟩)
 . obtain rfl:k=w.hosts.length:=by simp at g1;omega
   exact Bh w hz (by rw[List.take_length]at hall;rw[List.take_of_length_le hk2];exact hall) _ (aF.keep ⟨ae,trivial⟩ ⟨ae,trivial⟩)
theorem Qj(w:aL):NQ.Fn cx 33 [.agg (bn w)] (.d (.bool (mi w))) []:=by
 refine fC IP aV mixed Tryz.func33 (by kernel_rfl) rfl (ag rfl) ?_
 conv=>whnf
 refine⟨Nat,λk=>⟨[(1,.ptr 1 0),(3,.d (.int .i64 k))],[(1,.box ((bn w).map .d))]⟩,λk=>k<=w.zones.length/\k<=21/\(w.zones.take k).all (λp=>oL p.zone&&decide (p.zone.apex.length<=100))=true,λk=>w.zones.length-k,
  ⟨0,⟨Nat.zero_le _,Nat.zero_le _,rfl⟩,aF.keep ⟨ae,ae,trivial⟩ ⟨ae,trivial⟩⟩,λk ⟨hk,hk2,hall⟩=>?_⟩
 conv=>whnf
 have no:∀p,w.zones[k]? =some p->k<21->(oL p.zone&&decide (p.zone.apex.length<=100))=false->mi w=false:=λp hp hk hb=>by
  have:(w.zones.take 21).all (λp=>oL p.zone&&decide (p.zone.apex.length<=100))=false:=by
   rw[<- Bool.not_eq_true,ay];intro h;rw[h p (ar (i:=k) (by rw[List.getElem?_take,if_pos hk];exact hp))]at hb;cases hb
  unfold mi;rw[this];simp
 refine af (λg1=>?_) (λg1=>?_) <;> (rw[g1];conv=>whnf)
 . have hlt:k<w.zones.length:=by simpa using g1
   obtain⟨x,hx⟩:∃x,w.zones[k]? =some x:=⟨_,aj hlt⟩
   refine af (λg2=>?_) (λg2=>?_) <;> (rw[g2];conv=>whnf)
   . have hk3:k<21:=by simp at g2;omega
     refine⟨aw k,aC x,aD hx,?_⟩
     conv=>whnf
     (refine⟨_,_,RI x.zone,?_⟩;conv=>whnf)
     refine af (λg3=>?_) (λg3=>?_) <;> (rw[g3];conv=>whnf)
     . refine al rfl ?_;rw[no x hx hk3 (by simp_all)];rfl
     refine⟨aw k,aC x,aD hx,?_⟩
     conv=>whnf
     refine af (λg4=>?_) (λg4=>?_) <;> (rw[g4];conv=>whnf)
     . refine al rfl ?_;rw[no x hx hk3 (by simp at g4;simp;omega)];rfl
     . refine⟨k+1,⟨hlt,by omega,?_⟩,by(show w.zones.length-(k+1)<w.zones.length-k;omega),aF.keep ⟨ae,⟨an (by omega),rfl⟩,trivial⟩ ⟨ae,trivial⟩⟩;rw[bU hx,List.all_append,hall];simp at g3 g4;simp[g3];omega
   . have:k=21:=by simp at g2;omega
     subst this;exact Dz w hall _ (aF.keep ⟨ae,trivial⟩ ⟨ae,trivial⟩)
 . obtain rfl:k=w.zones.length:=by simp at g1;omega
   exact Dz w (by rw[List.take_length]at hall;rw[List.take_of_length_le hk2];exact hall) _ (aF.keep ⟨ae,trivial⟩ ⟨ae,trivial⟩)
end Go.Proofs.YtodofogcincleaaGreatDoor
namespace NP
open NQ Go
theorem wM{p q:ai}(hp:aR p.zone=true)(hq:aR q.zone=true):jR p q=(decide (eP p.zone>eP q.zone)||(decide (eP p.zone=eP q.zone)&&decide (p.host<q.host))):=by
 unfold jR sn;rw[hp,hq];rfl
end NP
namespace Go.Proofs.YtodofogcincleaaGreatDoor
open NQ Go NP Go.RowKit
theorem Nl(zs:List ai)(a:Bs)(hz:∀p∈zs,aR p.zone=true)(hl:zs.length<=100000):NQ.Fn cx 9 [.slice 3 (zs.map aC),.str a] (.d (.int .i64 (OG (fq zs a)))) []:=by
 refine aM aV mixed Tryz.func9 (by kernel_rfl) rfl (ag rfl) ?_;conv=>whnf
 refine⟨Nat×Option (Nat×ai),λx=>⟨[(0,.d (.slice 3 (zs.map aC))),(1,.d (.str a)),(5,.d (.int .i64 (OG x.2))),(6,.d (.int .i64 x.1))],[]⟩,
  λx=>x.1<=zs.length/\oa zs x.2/\iy (λp=>p.zone.apex==a) jR x.1 (zs.drop x.1) x.2=fq zs a,λx=>zs.length-x.1,
  ⟨(0,none),⟨Nat.zero_le _,(λx hx=>by cases hx),rfl⟩,aF.keep ⟨ae,ae,ae,ae,trivial⟩ trivial⟩,λ⟨k,b⟩ ⟨hk,hb,hinv⟩=>?_⟩
 dsimp only at hk hb hinv ⊢
 conv=>whnf
 refine af (λh1=>?_) (λh1=>?_) <;> (rw[h1];conv=>whnf)
 . have hlt:k<zs.length:=by simpa using h1
   obtain⟨p,hp⟩:∃p,zs[k]? =some p:=⟨_,aj hlt⟩
   have hpv:=hz p (ar hp);rw[KD hp]at hinv;have next:∀b',b' =dO (λp=>p.zone.apex==a) jR k p b->(k+1<=zs.length/\oa zs b' /\iy (λp=>p.zone.apex==a) jR (k+1) (zs.drop (k+1)) b' =fq zs a):=λb' e=>by
    rw[e];exact⟨hlt,hb.step hp,hinv⟩
   refine⟨aw k,aC p,aD hp,?_⟩
   conv=>whnf
   refine af (λh2=>?_) (λh2=>?_) <;> (rw[h2];conv=>whnf)
   . exact⟨(k+1,b),next _ (by unfold dO;rw[if_neg (by simpa using h2)]),by(show zs.length-(k+1)<zs.length-k;omega),aF.keep ⟨ae,ae,ae,⟨an (by omega),rfl⟩,trivial⟩ trivial⟩
   have ha:(p.zone.apex==a)=true:=by simpa using h2
   cases b with
   |none =>
    conv=>whnf
    exact⟨(k+1,some (k,p)),next _ (by unfold dO;rw[if_pos ha]),by(show zs.length-(k+1)<zs.length-k;omega),aF.keep ⟨ae,ae,ae,⟨an (by omega),rfl⟩,trivial⟩ trivial⟩
   |some x =>
    have hx:=hb x rfl;have hxv:=hz x.2 (ar hx);have hnew:=wM hpv hxv
    conv=>whnf
    refine⟨aw k,aC p,aD hp,?_⟩
    conv=>whnf
    (refine⟨_,_,lR p.zone hpv,?_⟩;conv=>whnf)
    refine⟨aw x.1,aC x.2,aD hx,?_⟩
    conv=>whnf
    (refine⟨_,_,lR x.2.zone hxv,?_⟩;conv=>whnf)
    (refine⟨(by kernel_rfl:bC _ _=true),?_⟩;conv=>whnf)
    repeat' (first
     |(refine af (λh=>?_) (λh=>?_) <;> (rw[h];conv=>whnf))
     |(refine⟨aw k,aC p,aD hp,?_⟩;conv=>whnf)
     |(refine⟨aw x.1,aC x.2,aD hx,?_⟩;conv=>whnf)
     |fail)
    all_goals first
     |(refine⟨(k+1,some (k,p)),next _ (by unfold dO;rw[if_pos ha];dsimp only;rw[if_pos (by rw[hnew];simp_all;done)]),by(show zs.length-(k+1)<zs.length-k;omega),aF.keep ⟨ae,ae,ae,⟨an (by omega),rfl⟩,trivial⟩ trivial⟩;done)
     |(refine⟨(k+1,some x),next _ (by unfold dO;rw[if_pos ha];dsimp only;rw[if_neg (by rw[hnew];simp_all;done)]),by(show zs.length-(k+1)<zs.length-k;omega),aF.keep ⟨ae,ae,ae,⟨an (by omega),rfl⟩,trivial⟩ trivial⟩;done)
     |(refine⟨(k+1,some x),next _ (by unfold dO;rw[if_pos ha];dsimp only;rw[if_neg (by rw[hnew];simp_all;omega)]),by(show zs.length-(k+1)<zs.length-k;omega),aF.keep ⟨ae,ae,ae,⟨an (by omega),rfl⟩,trivial⟩ trivial⟩;done)
 . obtain rfl:k=zs.length:=by simp at h1;omega
   refine al rfl ?_;rw[<- hinv,List.drop_length];rfl
theorem vo(w:aL)(hF:tR w):NQ.Fn cx 55 [.agg (bn w)] (.d (.bool (eB w))) []:=MB w (by have:=hF.hosts;omega) (by have:=hF.zones;omega) (by have:=hF.hints;omega)
end Go.Proofs.YtodofogcincleaaGreatDoor
