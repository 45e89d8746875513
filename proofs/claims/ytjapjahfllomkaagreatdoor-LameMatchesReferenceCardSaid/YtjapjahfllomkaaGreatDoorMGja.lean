/-
  Merged texts.
-/
import Derived.Test.YtjapjahfllomkaaGreatDoorMGa
import Derived.Test.YtjapjahfllomkaaGreatDoorQsoM
import Derived.Test.YtjapjahfllomkaaGreatDoorSortM
set_option linter.all false
set_option maxRecDepth 100000
namespace NP
open NQ Go
def ij(l:List ep)(a:Int):Int:=match l.findIdx? (λh=>h.addr==a)with|some k=>(k:Int)|none=> -1
end NP
namespace Go.Proofs.YtjapjahfllomkaaGreatDoor
open NQ Go NP Go.RowKit
end Go.Proofs.YtjapjahfllomkaaGreatDoor
namespace NP
open NQ Go
def fM(ok:aq->Bool)(better:aq->aq->Bool):Nat->List aq->Option (Nat×aq)->Option (Nat×aq)
 |_,[],b=>b
 |i,p::t,b=>fM ok better (i+1) t (if ok p=true then(match b with|none=>some (i,p)|some x=>if better p x.2=true then some (i,p)else b)else b)
def Mu:Option (Nat×aq)->Int
 |none=> -1
 |some x=>(x.1:Int)
def bU(ok:aq->Bool)(better:aq->aq->Bool)(i:Nat)(p:aq)(b:Option (Nat×aq)):Option (Nat×aq):=if ok p=true then(match b with|none=>some (i,p)|some x=>if better p x.2=true then some (i,p)else b)else b
theorem An{ok:aq->Bool}{better:aq->aq->Bool}{l:List aq}{k:Nat}{p:aq}(h:l[k]? =some p)(b:Option (Nat×aq)):fM ok better k (l.drop k) b=fM ok better (k+1) (l.drop (k+1)) (bU ok better k p b):=by
 rw[drop_cons h];rfl
def iT(zs:List aq)(b:Option (Nat×aq)):Prop:= ∀x,b=some x->zs[x.1]? =some x.2
theorem iT.step{zs:List aq}{b:Option (Nat×aq)}(h:iT zs b){ok:aq->Bool}{better:aq->aq->Bool}{i:Nat}{p:aq}(hp:zs[i]? =some p):iT zs (bU ok better i p b):=by
 intro x hx;unfold bU at hx;split at hx
 . split at hx
   . cases hx;exact hp
   . split at hx
     . cases hx;exact hp
     . exact h x hx
 . exact h x hx
theorem zn{zs:List aq}{ok:aq->Bool}{better:aq->aq->Bool}:∀(l:List aq) (i:Nat) (b:Option (Nat×aq)),(∀j,l[j]? =zs[i+j]?)->iT zs b->iT zs (fM ok better i l b)
 |[],i,b,_,h=>h
 |p::t,i,b,hl,h=>zn t (i+1) _ (λj=>by have:=hl (j+1);simp at this;rw[this];congr 1;omega) (h.step (by have:=hl 0;simpa using this.symm))
theorem tX{ok:aq->Bool}{better:aq->aq->Bool}:∀(l:List aq) (i:Nat) (b:Option (Nat×aq)),fM ok better i l b=none ↔ (b=none/\ ∀p∈l,ok p=false)
 |[],i,b=>by simp[fM]
 |p::t,i,b=>by
  show fM ok better (i+1) t (bU ok better i p b)=none ↔ _
  rw[tX t];unfold bU;cases hp:ok p <;> cases b <;> simp[hp];intro h;split at h <;> cases h
theorem Cj{ok:aq->Bool}{key:aq->Int}:∀(l:List aq) (i:Nat) (b:Option (Nat×aq)) (x:Nat×aq),fM ok (λp q=>decide (key q<key p)) i l b=some x ->
 (b=some x\/(x.2∈l/\ok x.2=true))/\(∀y,b=some y->key y.2<=key x.2)/\ ∀p∈l,ok p=true->key p<=key x.2
 |[],i,b,x,h=>by cases h;exact⟨.inl rfl,λy hy=>by cases hy;exact Int.le_refl _,λp hp=>by cases hp⟩
 |p::t,i,b,x,h=>by
  obtain⟨h1,h2,h3⟩:=Cj t (i+1) (bU ok (λp q=>decide (key q<key p)) i p b) x h;unfold bU at h1 h2;by_cases hp:ok p=true
  . rw[if_pos hp]at h1 h2;cases b with
    |none =>
     refine⟨.inr ?_,λy hy=>(by cases hy),λq hq hoq=>?_⟩
     . rcases h1 with h1|h1
       . cases h1;exact⟨List.mem_cons_self .., hp⟩
       . exact⟨aK _ h1.1,h1.2⟩
     . rcases List.mem_cons.1 hq with rfl|hq
       . exact h2 (i,q) rfl
       . exact h3 q hq hoq
    |some y =>
     dsimp only at h1 h2;by_cases hb:key y.2<key p
     . rw[if_pos (decide_eq_true hb)]at h1 h2;have hpx:=h2 (i,p) rfl;refine⟨.inr ?_,λz hz=>by cases hz;dsimp only at hpx;omega,λq hq hoq=>?_⟩
       . rcases h1 with h1|h1
         . cases h1;exact⟨List.mem_cons_self .., hp⟩
         . exact⟨aK _ h1.1,h1.2⟩
       . rcases List.mem_cons.1 hq with rfl|hq
         . exact hpx
         . exact h3 q hq hoq
     . rw[if_neg (by simpa using hb)]at h1 h2;have hyx:=h2 y rfl;refine⟨?_,λz hz=>h2 z hz,λq hq hoq=>?_⟩
       . rcases h1 with h1|h1
         . exact .inl h1
         . exact .inr ⟨aK _ h1.1,h1.2⟩
       . rcases List.mem_cons.1 hq with rfl|hq
         . omega
         . exact h3 q hq hoq
  . rw[if_neg hp]at h1 h2;refine⟨?_,h2,λq hq hoq=>?_⟩
    . rcases h1 with h1|h1
      . exact .inl h1
      . exact .inr ⟨aK _ h1.1,h1.2⟩
    . rcases List.mem_cons.1 hq with rfl|hq
      . exact absurd hoq hp
      . exact h3 q hq hoq
def kE(s:Bs):Int:=((aT s).length:Int)
theorem M5{s:Bs}(h:ao s=true):s≠[]:=by rintro rfl;revert h;decide
def km(host:Int)(nm nt:Bs)(p:aq):Bool:= !((decide (host>=0)&&(p.host != host))||(p.zone.apex==nt)|| !aF nm p.zone.apex)
def He(p:aq):Int:=kE p.zone.apex
def yf(p q:aq):Bool:=decide (He q<He p)
def nN(zs:List aq)(host:Int)(nm nt:Bs):Option (Nat×aq):=fM (km host nm nt) yf 0 zs none
def ba(zs:List aq)(a:Bs):Option (Nat×aq):=fM (λp=>p.zone.apex==a) dI 0 zs none
theorem Bh{zs:List aq}{a:Bs}:∀(l:List aq) (i:Nat) (m:List (Bs×Nat)) (b:Option (Nat×aq)),(∀j,l[j]? =zs[i+j]?)->iT zs b->fH a m=b.map (·.1)->fH a (lP zs i l m)=(fM (λp=>p.zone.apex==a) dI i l b).map (·.1)
 |[],i,m,b,_,_,h=>h
 |p::t,i,m,b,hl,hb,h=>by
  have hp:zs[i]? =some p:=by have:=hl 0;simpa using this.symm
  show fH a (lP zs (i+1) t (if iL zs m p=true then nG p.zone.apex i m else m))=(fM (λp=>p.zone.apex==a) dI (i+1) t (bU (λp=>p.zone.apex==a) dI i p b)).map (·.1)
  refine Bh t (i+1) _ _ (λj=>by have:=hl (j+1);simp at this;rw[this];congr 1;omega) (hb.step hp) ?_;by_cases ha:p.zone.apex=a
  . have hb' :∀b,bU (λp=>p.zone.apex==a) dI i p b=(match b with|none=>some (i,p)|some x=>if dI p x.2=true then some (i,p)else b):=λb=>by
     unfold bU;exact if_pos (by show(p.zone.apex==a)=true;rw[ha];exact beq_self_eq_true a)
    rw[hb'];cases b with
    |none =>
     have ht:iL zs m p=true:=by unfold iL;rw[ha,h];rfl
     rw[if_pos ht,oG,if_pos ha];rfl
    |some x =>
     have hx:=hb x rfl;have ht:iL zs m p=dI p x.2:=by unfold iL;rw[ha,h];simp only[Option.map_some];rw[hx]
     dsimp only;rw[ht];split
     . rw[oG,if_pos ha];rfl
     . exact h
  . have hb' :bU (λp=>p.zone.apex==a) dI i p b=b:=by unfold bU;exact if_neg (by simpa using ha)
    rw[hb'];split
    . rw[oG,if_neg ha];exact h
    . exact h
theorem Bi(zs:List aq)(a:Bs):fH a (fy zs)=(ba zs a).map (·.1):=Bh zs 0 [] none (λj=>by rw[Nat.zero_add]) (λx hx=>by cases hx) rfl
theorem sA(zs:List aq)(a:Bs):iT zs (ba zs a):=zn zs 0 none (λj=>by rw[Nat.zero_add]) (λx hx=>by cases hx)
theorem Lv(zs:List aq)(h:Int)(nm nt:Bs):iT zs (nN zs h nm nt):=zn zs 0 none (λj=>by rw[Nat.zero_add]) (λx hx=>by cases hx)
theorem tD{n:Nat}:∀(l seen:List aq),dA n seen l=true->l.Pairwise (λx p=>dx p x=false)/\ ∀p∈l,seen.any (dx p)=false
 |[],_,_=>⟨List.Pairwise.nil,λp hp=>by cases hp⟩
 |x::t,seen,h=>by
  unfold dA at h;simp only[aC,Bool.not_eq_true',Bool.or_eq_false_iff]at h;obtain⟨h1,h2⟩:=tD t _ h.2;refine⟨List.Pairwise.cons (λp hp=>?_) h1,λp hp=>?_⟩
  . have:=h2 p hp;rw[List.any_append]at this;simp only[Bool.or_eq_false_iff,List.any_cons,List.any_nil,ji]at this;exact this.2
  . rcases List.mem_cons.1 hp with rfl|hp
    . exact h.1.1.2
    . have:=h2 p hp;rw[List.any_append]at this;simp only[Bool.or_eq_false_iff]at this;exact this.1
theorem Fl{w:ay}(h:aU w=true):w.zones.Pairwise (λx p=>dx p x=false):=by
 unfold aU jR at h;simp only[aC]at h;exact(tD _ _ h.1.2.1.2).1
theorem AX:∀{zs:List aq},zs.Pairwise (λx p=>dx p x=false)-> ∀{p q:aq},p∈zs->q∈zs->p.host=q.host->p.zone.apex=q.zone.apex->p=q
 |[],_,p,q,hp,_,_,_=>by cases hp
 |x::t,h,p,q,hp,hq,e1,e2=>by
  cases h with|cons h1 h2 =>
  rcases List.mem_cons.1 hp with hp' |hp'
  . rcases List.mem_cons.1 hq with hq' |hq'
    . rw[hp',hq']
    . have:=h1 q hq';rw[<- hp']at this;unfold dx at this;simp[e1,e2]at this
  . rcases List.mem_cons.1 hq with hq' |hq'
    . have:=h1 p hp';rw[<- hq']at this;unfold dx at this;simp[e1,e2]at this
    . exact AX h2 hp' hq' e1 e2
theorem L0{a b s:Bs}(ha:aF s a=true)(hb:aF s b=true)(h:kE a=kE b):a=b:=by
 have h1:=(dK _ _).1 ha;have h2:=(dK _ _).1 hb;refine sn ?_;have hl:(back a).length=(back b).length:=by
  unfold kE at h;rw[back_eq,back_eq,List.length_reverse,List.length_reverse];omega
 obtain⟨x,hx⟩:=h1;obtain⟨y,hy⟩:=h2;exact(List.append_inj (hx.trans hy.symm) hl).1
theorem Lw{zs:List aq}{K:Int}{nm nt:Bs}{x:Nat×aq}(h:nN zs K nm nt=some x):x.2∈zs/\km K nm nt x.2=true/\ ∀p∈zs,km K nm nt p=true->He p<=He x.2:=by
 obtain⟨h1,_,h3⟩:=Cj zs 0 none x h;rcases h1 with h1|h1
 . cases h1
 . exact⟨h1.1,h1.2,h3⟩
def fE(l:List aq):List Bs:=l.foldl (λout p=>if out.contains p.zone.apex=true then out else out++[p.zone.apex]) []
theorem vV(l:List aq)(p:aq):fE (l++[p])=if (fE l).contains p.zone.apex=true then fE l else fE l++[p.zone.apex]:=by unfold fE;rw[List.foldl_append];rfl
theorem Gp(l:List aq):(fE l).length<=l.length:=by
 have key:∀(l:List aq) (out:List Bs),(l.foldl (λout p=>if out.contains p.zone.apex=true then out else out++[p.zone.apex]) out).length<=out.length+l.length:=λl=>by
  induction l with
  |nil=>intro out;simp
  |cons p t ih =>
   intro out;refine Nat.le_trans (ih _) ?_;dsimp only;split <;> simp <;> omega
 have:=key l [];rw[List.length_nil,Nat.zero_add]at this;exact this
theorem yY(a:Bs)(v:D):∀m:List (Bs×D),(dC a v m).map (·.1)=if (m.map (·.1)).contains a=true then m.map (·.1)else m.map (·.1)++[a]
 |[]=>by simp[dC]
 |(b,x)::t=>by
  show(if a=b then _ else _::dC a v t).map (·.1)=_
  by_cases h:a=b
  . subst h;simp
  . rw[if_neg h];simp only[List.map_cons,List.contains_cons];rw[yY a v t];have:(a==b)=false:=by simpa using h
    rw[this,dE];split <;> simp
theorem K3(l:List aq):(apx l).map (·.1)=fE l:=by
 have key:∀(l:List aq) (m:List (Bs×D)),(l.foldl (λm p=>dC p.zone.apex (.bool true) m) m).map (·.1)=l.foldl (λout p=>if out.contains p.zone.apex=true then out else out++[p.zone.apex]) (m.map (·.1)):=λl=>by
  induction l with
  |nil=>intro m;rfl
  |cons p t ih=>intro m;simp only[List.foldl_cons];rw[ih,yY]
 exact key l []
theorem zl(l:List aq):(apx l).length=(fE l).length:=by rw[<- K3,aj]
def nr(w:ay):Bool:=(w.zones.take 21).all (λp=>fh p.zone&&decide (p.zone.apex.length<=100))&&(w.hosts.take 71).all (λh=>decide (h.name.length<=100))&&decide ((w.zones.length:Int)<=20)&&decide ((w.hosts.length:Int)<=70)&&decide ((w.hints.length:Int)<=20)&&decide ((w.anchor.data.length:Int)<=20)
theorem CF{w:ay}(h:nr w=true):cU w/\w.hosts.length<=70/\w.zones.length<=20/\w.hints.length<=20:=by
 unfold nr at h;simp only[aC,decide_eq_true_eq,ax]at h;obtain⟨⟨⟨⟨⟨h1,h2⟩,h3⟩,h4⟩,h5⟩,h6⟩:=h;have:w.zones.take 21=w.zones:=List.take_of_length_le (by omega);rw[this]at h1;exact⟨⟨by omega,by omega,by omega,λp hp=>(h1 p hp).1⟩,by omega,by omega,by omega⟩
end NP
namespace Go.Proofs.YtjapjahfllomkaaGreatDoor
open NQ Go NP Go.RowKit
theorem JI(l:List ep)(hl:l.length<=100000):NQ.Fn cx 113 [.slice 3 (l.map dV)] (.d (.bool (kz l))) []:=by
 refine aB aP mixed Tryz.func113 (by kernel_rfl) rfl (ai rfl) ?_;conv=>whnf
 rw[aj];refine ae (λh=>?_) (λh=>?_) <;> (rw[h];conv=>whnf)
 . refine af rfl ?_;show AV.d (D.bool _)=AV.d (D.bool _)
   congr 2
   unfold kz;simp at h;simp;omega
 have hle:kz l=iu [] l:=by unfold kz;simp at h;simp;omega
 rw[hle];refine⟨Nat,λk=>⟨[(0,.d (.slice 3 (l.map dV))),(3,.d (.int .i64 k))],[]⟩,λk=>k<=l.length/\iu ((l.take k).map (·.addr)) (l.drop k)=iu [] l,λk=>l.length-k,
  ⟨0,⟨Nat.zero_le _,rfl⟩,ag.keep ⟨ab,ab,trivial⟩ trivial⟩,λk ⟨hk,hinv⟩=>?_⟩
 conv=>whnf
 refine ae (λh1=>?_) (λh1=>?_) <;> (rw[h1];conv=>whnf)
 . have hlt:k<l.length:=by simpa using h1
   obtain⟨x,hx⟩:∃x,l[k]? =some x:=⟨_,ah hlt⟩
   rw[yr hx]at hinv;refine⟨au k,dV x,aA hx,?_⟩
   conv=>whnf
   (refine⟨_,_,mg x.name,?_⟩;conv=>whnf)
   cases hv:ao x.name with
   |false =>
    conv=>whnf
    refine af rfl ?_;rw[<- hinv,hv];rfl
   |true =>
    conv=>whnf
    (refine⟨_,_,B5 x.name hv,?_⟩;conv=>whnf)
    rw[hv,Nc hv]at hinv
    repeat' (first|(refine ae (λh=>?_) (λh=>?_) <;> (rw[h];conv=>whnf))|fail)
    all_goals first
     |(refine af rfl ?_;show AV.d (D.bool false)=AV.d (D.bool _);rw[<- hinv];clear hinv hle;unfold fY;simp_all;done)
     |skip
    all_goals first
     |(refine af rfl ?_;show AV.d (D.bool false)=AV.d (D.bool _);rw[<- hinv];clear hinv hle;unfold fY;simp_all;omega)
     |skip
    refine⟨Nat,λj=>⟨[(0,.d (.slice 3 (l.map dV))),(3,.d (.int .i64 k)),(4,.ptr 4 0),(6,.d (.int .i64 j))],[(4,.box ((dV x).map .d))]⟩,λj=>j<=k/\((l.take j).map (·.addr)).contains x.addr=false,λj=>k-j,
     ⟨0,⟨Nat.zero_le _,rfl⟩,ag.keep ⟨ab,ab,ab,ab,trivial⟩ ⟨ab,trivial⟩⟩,λj ⟨hj,hno⟩=>?_⟩
    conv=>whnf
    refine ae (λh2=>?_) (λh2=>?_) <;> (rw[h2];conv=>whnf)
    . have hjk:j<k:=by simpa using h2
      obtain⟨y,hy⟩:∃y,l[j]? =some y:=⟨_,ah (by omega)⟩
      try (refine⟨(by kernel_rfl:bc _ _=true),?_⟩;conv=>whnf)
      refine⟨au j,dV y,aA hy,?_⟩
      conv=>whnf
      refine ae (λh3=>?_) (λh3=>?_) <;> (rw[h3];conv=>whnf)
      . refine af rfl ?_;show AV.d (D.bool false)=AV.d (D.bool _)
        have:((l.take k).map (·.addr)).contains x.addr=true:=by
         rw[cq,List.mem_map];exact⟨y,ar (i:=j) (by rw[List.getElem?_take,if_pos hjk];exact hy),by simpa using h3⟩
        rw[<- hinv,this];simp
      . refine⟨j+1,⟨hjk,?_⟩,by(show k-(j+1)<k-j;omega),ag.keep ⟨ab,ab,ab,⟨ak (by omega),rfl⟩,trivial⟩ ⟨ab,trivial⟩⟩;rw[aV hy,List.map_append];have h3' :(x.addr==y.addr)=false:=by
         rw[<- Bool.not_eq_true]at h3 ⊢;intro e;apply h3;simp at e ⊢;exact e.symm
        simp only[List.map_cons,List.map_nil];rw[Bool.eq_false_iff]at hno h3' ⊢;simp only[ne_eq,cq,List.mem_append,List.mem_singleton,beq_iff_eq]at hno h3' ⊢;rintro(e|e)
        . exact hno e
        . exact h3' e
    . obtain rfl:j=k:=by simp at h2;omega
      refine⟨j+1,⟨hlt,?_⟩,by(show l.length-(j+1)<l.length-j;omega),ag.keep ⟨ab,⟨ak (by omega),rfl⟩,trivial⟩ trivial⟩;rw[aV hx,List.map_append, <- hinv,hno];clear hinv hle;show _=(_&&_&&_)
      unfold fY
      simp_all
      try omega
 . obtain rfl:k=l.length:=by simp at h1;omega
   refine af rfl ?_;rw[<- hinv,List.drop_length];rfl
theorem CU(l:List ep)(a:Int)(hl:l.length<=100000):NQ.Fn cx 23 [.slice 3 (l.map dV),.int .i64 a] (.d (.int .i64 (ij l a))) []:=by
 refine aB aP mixed Tryz.func23 (by kernel_rfl) rfl (ai rfl) ?_;conv=>whnf
 refine⟨Nat,λk=>⟨[(0,.d (.slice 3 (l.map dV))),(1,.d (.int .i64 a)),(5,.d (.int .i64 k))],[]⟩,λk=>k<=l.length/\ ∀j y,j<k->l[j]? =some y->(y.addr==a)=false,λk=>l.length-k,
  ⟨0,⟨Nat.zero_le _,λj y h=>by omega⟩,ag.keep ⟨ab,ab,ab,trivial⟩ trivial⟩,λk ⟨hk,hall⟩=>?_⟩
 conv=>whnf
 refine ae (λh1=>?_) (λh1=>?_) <;> (rw[h1];conv=>whnf)
 . have hlt:k<l.length:=by simpa using h1
   obtain⟨x,hx⟩:∃x,l[k]? =some x:=⟨_,ah hlt⟩
   refine⟨au k,dV x,aA hx,?_⟩
   conv=>whnf
   refine ae (λh2=>?_) (λh2=>?_) <;> (rw[h2];conv=>whnf)
   . refine af rfl ?_;have:l.findIdx? (λh=>h.addr==a)=some k:=by
      rw[List.findIdx?_eq_some_iff_getElem];obtain⟨g1,g2⟩:=av.1 hx;refine⟨g1,by rw[g2];exact h2,λj hj=>?_⟩;have:=hall j (l[j]) hj (ah (by omega));rw[this];decide
     unfold ij;rw[this];rfl
   . refine⟨k+1,⟨hlt,λj y hj hy=>?_⟩,by(show l.length-(k+1)<l.length-k;omega),ag.keep ⟨ab,ab,⟨ak (by omega),rfl⟩,trivial⟩ trivial⟩;rcases Nat.lt_succ_iff_lt_or_eq.1 hj with hj|rfl
     . exact hall j y hj hy
     . rw[hx]at hy;cases hy;exact h2
 . obtain rfl:k=l.length:=by simp at h1;omega
   refine af rfl ?_;have:l.findIdx? (λh=>h.addr==a)=none:=by
    rw[List.findIdx?_eq_none_iff];intro x hx;obtain⟨i,hi⟩:=cE hx;exact hall i x (av.1 hi).1 hi
   unfold ij;rw[this];rfl
theorem Kg(s:gG)(hints:List Int)(hl:hints.length<=100000):NQ.Fn cx 114 [.agg (mO s),.slice 1 (hints.map bg)] (.d (.bool (nS s hints))) []:=by
 refine aB aP mixed Tryz.func114 (by kernel_rfl) rfl (ai rfl) ?_;conv=>whnf
 refine⟨Nat,λk=>⟨[(1,.d (.slice 1 (hints.map bg))),(2,.ptr 2 0),(5,.d (.int .i64 k))],[(2,.box ((mO s).map .d))]⟩,λk=>k<=hints.length/\(hints.take k).all fY=true,λk=>hints.length-k,
  ⟨0,⟨Nat.zero_le _,rfl⟩,ag.keep ⟨ab,ab,ab,trivial⟩ ⟨ab,trivial⟩⟩,λk ⟨hk,hall⟩=>?_⟩
 conv=>whnf
 refine ae (λh1=>?_) (λh1=>?_) <;> (rw[h1];conv=>whnf)
 . have hlt:k<hints.length:=by simpa using h1
   obtain⟨x,hx⟩:∃x,hints[k]? =some x:=⟨_,ah hlt⟩
   refine⟨au k,bg x,aA hx,?_⟩
   conv=>whnf
   have no:fY x=false->nS s hints=false:=λhb=>by
    have:hints.all fY=false:=by
     rw[<- Bool.not_eq_true,ax];intro hh;rw[hh x (ar hx)]at hb;cases hb
    unfold nS;rw[this];simp
   refine ae (λh2=>?_) (λh2=>?_) <;> (rw[h2];conv=>whnf)
   . refine af rfl ?_;rw[no (by unfold fY;simp at h2 ⊢;omega)];rfl
   . refine⟨au k,bg x,aA hx,?_⟩
     conv=>whnf
     refine ae (λh3=>?_) (λh3=>?_) <;> (rw[h3];conv=>whnf)
     . refine af rfl ?_;rw[no (by unfold fY;simp at h2 h3 ⊢;omega)];rfl
     . refine⟨k+1,⟨hlt,?_⟩,by(show hints.length-(k+1)<hints.length-k;omega),ag.keep ⟨ab,ab,⟨ak (by omega),rfl⟩,trivial⟩ ⟨ab,trivial⟩⟩;rw[aV hx,List.all_append,hall];simp at h2 h3;simp[fY];omega
 . obtain rfl:k=hints.length:=by simp at h1;omega
   rw[List.take_length]at hall
   (refine⟨_,_,DS s,?_⟩;conv=>whnf)
   repeat' (first|(refine ae (λh=>?_) (λh=>?_) <;> (rw[h];conv=>whnf))|fail)
   all_goals (refine af rfl ?_;show AV.d (D.bool _)=AV.d (D.bool _);congr 2;(try simp only[aj]at *);unfold nS;rw[hall];simp only[*, if_true,if_false,aD])
theorem Gq(l:List aq)(hl:l.length<=100000):NQ.Fn cx 116 [.slice 3 (l.map bn)] (.d (.slice 1 ((fE l).map aJ))) []:=by
 refine aB aP mixed Tryz.func116 (by kernel_rfl) rfl (ai rfl) ?_;conv=>whnf
 refine⟨Nat,λk=>⟨[(0,.d (.slice 3 (l.map bn))),(3,.own 100),(4,.d (.int .i64 k))],[(100,.row 9 1 ((fE (l.take k)).map aJ))]⟩,λk=>k<=l.length,λk=>l.length-k,
  ⟨0,Nat.zero_le _,(ag.jX 3 100 1 9 1 rfl rfl (by decide)).trans (ag.keep ⟨ab,ab,ab,trivial⟩ ⟨ab,trivial⟩)⟩,λk hk=>?_⟩
 conv=>whnf
 refine ae (λh1=>?_) (λh1=>?_) <;> (rw[h1];conv=>whnf)
 . have hlt:k<l.length:=by simpa using h1
   obtain⟨x,hx⟩:∃x,l[k]? =some x:=⟨_,ah hlt⟩
   have hal:(fE (l.take k)).length<=k:=by have:=Gp (l.take k);rw[List.length_take]at this;omega
   generalize hA:fE (l.take k)=A at *
   refine⟨Nat×Bool,λj=>⟨[(0,.d (.slice 3 (l.map bn))),(3,.own 100),(4,.d (.int .i64 k)),(5,.d (.bool j.2)),(6,.d (.int .i64 j.1))],[(100,.row 9 1 (A.map aJ))]⟩,λj=>j.1<=A.length/\j.2=(A.take j.1).contains x.zone.apex,λj=>A.length-j.1,
    ⟨(0,false),⟨Nat.zero_le _,rfl⟩,ag.keep ⟨ab,ab,ab,ab,ab,trivial⟩ ⟨⟨by rw[<- hA];rfl,rfl⟩,trivial⟩⟩,λ⟨j,f⟩ ⟨hj,hf⟩=>?_⟩
   dsimp only at hj hf ⊢
   conv=>whnf
   refine ae (λh2=>?_) (λh2=>?_) <;> (rw[h2];conv=>whnf)
   . have hjl:j<A.length:=by simpa using h2
     obtain⟨y,hy⟩:∃y,A[j]? =some y:=⟨_,ah hjl⟩
     (refine⟨(by kernel_rfl:bc _ _=true),?_⟩;conv=>whnf)
     refine ae (λh3=>?_) (λh3=>?_) <;> (rw[h3];conv=>whnf)
     . refine⟨(j+1,true),⟨hjl,?_⟩,by(show A.length-(j+1)<A.length-j;omega),ag.keep ⟨ab,ab,ab,ab,⟨ak (by omega),rfl⟩,trivial⟩ ⟨ab,trivial⟩⟩;dsimp only;rw[aV hy,List.contains_append, <- hf,h3];rfl
     . refine⟨au j,by(show j<(A.map aJ).length;rw[aj];exact hjl),?_⟩
       conv=>whnf
       refine⟨aJ y,aA hy,?_⟩
       conv=>whnf
       refine⟨au k,bn x,aA hx,?_⟩
       conv=>whnf
       refine⟨(j+1,y==x.zone.apex),⟨hjl,?_⟩,by(show A.length-(j+1)<A.length-j;omega),ag.keep ⟨ab,ab,ab,ab,⟨ak (by omega),rfl⟩,trivial⟩ ⟨ab,trivial⟩⟩;dsimp only;rw[aV hy,List.contains_append, <- hf,h3,dE];simp only[List.contains_cons,List.contains_nil,ji];exact Bool.eq_iff_iff.2 ⟨λh=>by simp at h ⊢;exact h.symm,λh=>by simp at h ⊢;exact h.symm⟩
   . obtain rfl:j=A.length:=by simp at h2;omega
     rw[List.take_length]at hf;refine ae (λh3=>?_) (λh3=>?_) <;> (rw[h3];conv=>whnf)
     . have hc:A.contains x.zone.apex=false:=by rw[<- hf];simpa using h3
       refine⟨au k,bn x,aA hx,?_⟩
       conv=>whnf
       refine⟨by(show(A.map aJ).length+1<=_);simp;omega,by(show((A.map aJ).length+1)*16<=_);simp;omega,?_⟩
       conv=>whnf
       refine⟨k+1,hlt,by(show l.length-(k+1)<l.length-k;omega),ag.keep ⟨ab,ab,⟨ak (by omega),rfl⟩,trivial⟩ ⟨⟨?_,rfl⟩,trivial⟩⟩;rw[aV hx,vV,hA,if_neg (by rw[hc];simp),List.map_append];rfl
     . have hc:A.contains x.zone.apex=true:=by rw[<- hf];simpa using h3
       refine⟨k+1,hlt,by(show l.length-(k+1)<l.length-k;omega),ag.keep ⟨ab,ab,⟨ak (by omega),rfl⟩,trivial⟩ ⟨⟨?_,rfl⟩,trivial⟩⟩;rw[aV hx,vV,hA,if_pos hc];rfl
 . obtain rfl:k=l.length:=by simp at h1;omega
   refine af rfl ?_;rw[List.take_length];rfl
set_option maxHeartbeats 2000000 in
theorem Bm(w:ay)(h1:w.hosts.length<=100000)(h2:w.zones.length<=100000)(h3:w.hints.length<=100000)(h4:∀p∈w.zones,p.zone.sets.length<=100000):NQ.Fn cx 59 [.agg (bw w)] (.d (.bool (aU w))) []:=by
 refine aB aP mixed Tryz.func59 (by kernel_rfl) rfl (ai rfl) ?_;conv=>whnf
 (refine⟨_,_,JI w.hosts h1,?_⟩;conv=>whnf)
 cases e1:kz w.hosts with
 |false =>
  conv=>whnf
  refine af rfl ?_;have:aU w=false:=by unfold aU;rw[e1];rfl
  rw[this];rfl
 |true =>
 conv=>whnf
 refine ae (λg0=>?_) (λg0=>?_) <;> (rw[g0];conv=>whnf)
 . refine af rfl ?_;have:aU w=false:=by
    have e3:decide ((w.zones.length:Int)<=4000)=false:=by
     have:=of_decide_eq_true g0;rw[aj]at this;exact decide_eq_false (by omega)
    unfold aU jR;rw[e3];simp
   rw[this];rfl
 (refine⟨_,_,Kg w.anchor w.hints h3,?_⟩;conv=>whnf)
 cases e2:nS w.anchor w.hints with
 |false =>
  conv=>whnf
  refine af rfl ?_;have:aU w=false:=by unfold aU;rw[e2];simp
  rw[this];rfl
 |true =>
 conv=>whnf
 have hyes:aU w=(dA w.hosts.length [] w.zones&&decide (((apx w.zones).length:Int)<=500)):=by
  have e3:(w.zones.length:Int)<=4000:=by
   have:=of_decide_eq_false g0;rw[aj]at this;omega
  unfold aU jR;rw[e1,e2,decide_eq_true e3];simp
 refine⟨Nat,λk=>⟨[(1,.ptr 1 0),(3,.d (.int .i64 k))],[(1,.box ((bw w).map .d))]⟩,λk=>k<=w.zones.length/\dA w.hosts.length (w.zones.take k) (w.zones.drop k)=dA w.hosts.length [] w.zones,λk=>w.zones.length-k,
  ⟨0,⟨Nat.zero_le _,rfl⟩,ag.keep ⟨ab,ab,trivial⟩ ⟨ab,trivial⟩⟩,λk ⟨hk,hinv⟩=>?_⟩
 conv=>whnf
 refine ae (λg1=>?_) (λg1=>?_) <;> (rw[g1];conv=>whnf)
 . have hlt:k<w.zones.length:=by simpa using g1
   obtain⟨x,hx⟩:∃x,w.zones[k]? =some x:=⟨_,ah hlt⟩
   rw[wb hx]at hinv;refine⟨au k,bn x,aA hx,?_⟩
   conv=>whnf
   (refine⟨_,_,A4 x.zone (h4 x (ar hx)),?_⟩;conv=>whnf)
   have bad:(decide (x.host<0)||decide (x.host>=(w.hosts.length:Int))||(w.zones.take k).any (dx x)|| !aW x.zone)=true->aU w=false:=λhb=>by
    rw[hyes, <- hinv,hb];rfl
   refine ae (λg2=>?_) (λg2=>?_) <;> (rw[g2];conv=>whnf)
   . refine af rfl ?_;rw[bad (by simp_all)];rfl
   refine ae (λg3=>?_) (λg3=>?_) <;> (rw[g3];conv=>whnf)
   . refine af rfl ?_;rw[bad (by simp_all)];rfl
   refine ae (λg4=>?_) (λg4=>?_) <;> (rw[g4];conv=>whnf)
   . refine af rfl ?_;rw[bad (by(try simp only[aj]at *);simp_all)];rfl
   refine⟨Nat,λj=>⟨[(1,.ptr 1 0),(3,.d (.int .i64 k)),(4,.ptr 4 0),(6,.d (.int .i64 j))],[(1,.box ((bw w).map .d)),(4,.box ((bn x).map .d))]⟩,λj=>j<=k/\(w.zones.take j).any (dx x)=false,λj=>k-j,
    ⟨0,⟨Nat.zero_le _,rfl⟩,ag.keep ⟨ab,ab,ab,ab,trivial⟩ ⟨ab,ab,trivial⟩⟩,λj ⟨hj,hno⟩=>?_⟩
   conv=>whnf
   refine ae (λg5=>?_) (λg5=>?_) <;> (rw[g5];conv=>whnf)
   . have hjk:j<k:=by simpa using g5
     obtain⟨y,hy⟩:∃y,w.zones[j]? =some y:=⟨_,ah (by omega)⟩
     (refine⟨(by kernel_rfl:bc _ _=true),?_⟩;conv=>whnf)
     refine⟨au j,bn y,aA hy,?_⟩
     conv=>whnf
     have next:dx x y=false->j+1<=k/\(w.zones.take (j+1)).any (dx x)=false:=λhs=>⟨hjk,by rw[aV hy,List.any_append,hno];simp[hs]⟩
     refine ae (λg6=>?_) (λg6=>?_) <;> (rw[g6];conv=>whnf)
     . refine⟨au j,bn y,aA hy,?_⟩
       conv=>whnf
       refine ae (λg7=>?_) (λg7=>?_) <;> (rw[g7];conv=>whnf)
       . refine af rfl ?_;have:(w.zones.take k).any (dx x)=true:=by
          rw[List.any_eq_true];refine⟨y,ar (i:=j) (by rw[List.getElem?_take,if_pos hjk];exact hy),?_⟩;simp at g6 g7;simp[dx,g6,g7]
         rw[bad (by rw[this];simp)];rfl
       . exact⟨j+1,next (by unfold dx;simp at g7;rw[Bool.and_eq_false_iff];right;simp;exact λe=>g7 e.symm),by(show k-(j+1)<k-j;omega),ag.keep ⟨ab,ab,ab,⟨ak (by omega),rfl⟩,trivial⟩ ⟨ab,ab,trivial⟩⟩
     . exact⟨j+1,next (by unfold dx;simp at g6;rw[Bool.and_eq_false_iff];left;simp;exact λe=>g6 e.symm),by(show k-(j+1)<k-j;omega),ag.keep ⟨ab,ab,ab,⟨ak (by omega),rfl⟩,trivial⟩ ⟨ab,ab,trivial⟩⟩
   . obtain rfl:j=k:=by simp at g5;omega
     refine⟨j+1,⟨hlt,?_⟩,by(show w.zones.length-(j+1)<w.zones.length-j;omega),ag.keep ⟨ab,⟨ak (by omega),rfl⟩,trivial⟩ ⟨ab,trivial⟩⟩;rw[aV hx, <- hinv];clear hinv hyes bad;have e1:decide (x.host<0)=false:=g3;have e2:decide (x.host>=(w.hosts.length:Int))=false:=by(try simp only[aj]at g4);exact g4
     have e3:(!aW x.zone)=false:=g2;rw[e1,e2,e3,hno];simp
 . obtain rfl:k=w.zones.length:=by simp at g1;omega
   (refine⟨_,_,Gq w.zones h2,?_⟩;conv=>whnf)
   refine af rfl ?_;show AV.d (D.bool _)=AV.d (D.bool _)
   congr 2
   rw[List.drop_length]at hinv;rw[hyes, <- hinv,zl];simp[dA]
def GZ:Nat->List Nat:=fun|7=>[55555]|12=>[55555]|_=>[]
theorem Ax(w:ay)(hz:(w.zones.take 21).all (λp=>fh p.zone&&decide (p.zone.apex.length<=100))=true)(hh:(w.hosts.take 71).all (λh=>decide (h.name.length<=100))=true)(st:St)(hs:ag cx st ⟨[(1,.ptr 1 0)],[(1,.box ((bw w).map .d))]⟩) :
 vc cx Tryz.f12.ntmps GZ (tu 3 ((Tryz.f12.body).getD .skip)) (fnQ cx Tryz.f12.results.toList (.d (.bool (nr w))) []) st:=by
 conv=>whnf
 refine⟨_,hs,?_⟩
 conv=>whnf
 have e:nr w=(decide ((w.zones.length:Int)<=20)&&decide ((w.hosts.length:Int)<=70)&&decide ((w.hints.length:Int)<=20)&&decide ((w.anchor.data.length:Int)<=20)):=by
  unfold nr;rw[hz,hh];rfl
 repeat' (first|(refine ae (λh=>?_) (λh=>?_) <;> (rw[h];conv=>whnf))|fail)
 all_goals (refine af rfl ?_;show AV.d (D.bool _)=AV.d (D.bool _);congr 2;(try simp only[aj]at *);rw[e];simp only[*, if_true,if_false,aD])
theorem CG(w:ay)(hz:(w.zones.take 21).all (λp=>fh p.zone&&decide (p.zone.apex.length<=100))=true)(st:St)(hs:ag cx st ⟨[(1,.ptr 1 0)],[(1,.box ((bw w).map .d))]⟩) :
 vc cx Tryz.f12.ntmps GZ (tu 2 ((Tryz.f12.body).getD .skip)) (fnQ cx Tryz.f12.results.toList (.d (.bool (nr w))) []) st:=by
 conv=>whnf
 refine⟨_,hs,?_⟩
 conv=>whnf
 refine⟨Nat,λk=>⟨[(1,.ptr 1 0),(5,.d (.int .i64 k))],[(1,.box ((bw w).map .d))]⟩,λk=>k<=w.hosts.length/\k<=71/\(w.hosts.take k).all (λh=>decide (h.name.length<=100))=true,λk=>w.hosts.length-k,
  ⟨0,⟨Nat.zero_le _,Nat.zero_le _,rfl⟩,ag.keep ⟨ab,ab,trivial⟩ ⟨ab,trivial⟩⟩,λk ⟨hk,hk2,hall⟩=>?_⟩
 conv=>whnf
 refine ae (λg1=>?_) (λg1=>?_) <;> (rw[g1];conv=>whnf)
 . have hlt:k<w.hosts.length:=by simpa using g1
   obtain⟨x,hx⟩:∃x,w.hosts[k]? =some x:=⟨_,ah hlt⟩
   refine ae (λg2=>?_) (λg2=>?_) <;> (rw[g2];conv=>whnf)
   . have hk3:k<71:=by simp at g2;omega
     refine⟨au k,dV x,aA hx,?_⟩
     conv=>whnf
     refine ae (λg4=>?_) (λg4=>?_) <;> (rw[g4];conv=>whnf)
     . refine af rfl ?_;have:(w.hosts.take 71).all (λh=>decide (h.name.length<=100))=false:=by
        rw[<- Bool.not_eq_true,ax];intro h;have:=h x (ar (i:=k) (by rw[List.getElem?_take,if_pos hk3];exact hx));simp at g4 this;omega
       have:nr w=false:=by unfold nr;rw[this];simp
       rw[this];rfl
     . refine⟨k+1,⟨hlt,by omega,?_⟩,by(show w.hosts.length-(k+1)<w.hosts.length-k;omega),ag.keep ⟨ab,⟨ak (by omega),rfl⟩,trivial⟩ ⟨ab,trivial⟩⟩;rw[aV hx,List.all_append,hall];simp at g4;simp;omega
   . have:k=71:=by simp at g2;omega
     subst this;exact Ax w hz hall _ (ag.keep ⟨ab,trivial⟩ ⟨ab,trivial⟩)
 . obtain rfl:k=w.hosts.length:=by simp at g1;omega
   exact Ax w hz (by rw[List.take_length]at hall;rw[List.take_of_length_le hk2];exact hall) _ (ag.keep ⟨ab,trivial⟩ ⟨ab,trivial⟩)
theorem N0(w:ay):NQ.Fn cx 12 [.agg (bw w)] (.d (.bool (nr w))) []:=by
 refine cK GZ aP mixed Tryz.func12 (by kernel_rfl) rfl (ai rfl) ?_
 conv=>whnf
 refine⟨Nat,λk=>⟨[(1,.ptr 1 0),(3,.d (.int .i64 k))],[(1,.box ((bw w).map .d))]⟩,λk=>k<=w.zones.length/\k<=21/\(w.zones.take k).all (λp=>fh p.zone&&decide (p.zone.apex.length<=100))=true,λk=>w.zones.length-k,
  ⟨0,⟨Nat.zero_le _,Nat.zero_le _,rfl⟩,ag.keep ⟨ab,ab,trivial⟩ ⟨ab,trivial⟩⟩,λk ⟨hk,hk2,hall⟩=>?_⟩
 conv=>whnf
 have no:∀p,w.zones[k]? =some p->k<21->(fh p.zone&&decide (p.zone.apex.length<=100))=false->nr w=false:=λp hp hk hb=>by
  have:(w.zones.take 21).all (λp=>fh p.zone&&decide (p.zone.apex.length<=100))=false:=by
   rw[<- Bool.not_eq_true,ax];intro h;rw[h p (ar (i:=k) (by rw[List.getElem?_take,if_pos hk];exact hp))]at hb;cases hb
  unfold nr;rw[this];simp
 refine ae (λg1=>?_) (λg1=>?_) <;> (rw[g1];conv=>whnf)
 . have hlt:k<w.zones.length:=by simpa using g1
   obtain⟨x,hx⟩:∃x,w.zones[k]? =some x:=⟨_,ah hlt⟩
   refine ae (λg2=>?_) (λg2=>?_) <;> (rw[g2];conv=>whnf)
   . have hk3:k<21:=by simp at g2;omega
     refine⟨au k,bn x,aA hx,?_⟩
     conv=>whnf
     (refine⟨_,_,Pu x.zone,?_⟩;conv=>whnf)
     refine ae (λg3=>?_) (λg3=>?_) <;> (rw[g3];conv=>whnf)
     . refine af rfl ?_;rw[no x hx hk3 (by simp_all)];rfl
     refine⟨au k,bn x,aA hx,?_⟩
     conv=>whnf
     refine ae (λg4=>?_) (λg4=>?_) <;> (rw[g4];conv=>whnf)
     . refine af rfl ?_;rw[no x hx hk3 (by simp at g4;simp;omega)];rfl
     . refine⟨k+1,⟨hlt,by omega,?_⟩,by(show w.zones.length-(k+1)<w.zones.length-k;omega),ag.keep ⟨ab,⟨ak (by omega),rfl⟩,trivial⟩ ⟨ab,trivial⟩⟩;rw[aV hx,List.all_append,hall];simp at g3 g4;simp[g3];omega
   . have:k=21:=by simp at g2;omega
     subst this;exact CG w hall _ (ag.keep ⟨ab,trivial⟩ ⟨ab,trivial⟩)
 . obtain rfl:k=w.zones.length:=by simp at g1;omega
   exact CG w (by rw[List.take_length]at hall;rw[List.take_of_length_le hk2];exact hall) _ (ag.keep ⟨ab,trivial⟩ ⟨ab,trivial⟩)
end Go.Proofs.YtjapjahfllomkaaGreatDoor
namespace NP
open NQ Go
end NP
namespace Go.Proofs.YtjapjahfllomkaaGreatDoor
open NQ Go NP Go.RowKit
theorem OL(z:az)(q:aQ)(hf:fh z=true):NQ.Fn cx 78 [.agg (aM z),.agg (cL q)] (.tuple [.agg ((ee (cn z q).1).map .d),.d (.int .i64 (cn z q).2)]) []:=OK hf q ▸ H4 z q hf
end Go.Proofs.YtjapjahfllomkaaGreatDoor
namespace NP
open NQ Go
theorem ET{p q:aq}(hp:aW p.zone=true)(hq:aW q.zone=true):dI p q=(decide (gC p.zone>gC q.zone)||(decide (gC p.zone=gC q.zone)&&decide (p.host<q.host))):=by
 unfold dI dX;rw[hp,hq];rfl
theorem qk(zs : List aq)(q : aQ)(f : Nat)(a : Bs) : iy zs (fy zs) q (f + 1) a = match ba zs a with
  |none=>(jm,false)
  |some x=>if ((cn x.2.zone q).1.kind != 4)=true then((cn x.2.zone q).1,true)else iy zs (fy zs) q f (cn x.2.zone q).1.cut:=by
 rw[iy,Bi];cases h:ba zs a with
 |none=>rfl
 |some x =>
  simp only[Option.map_some];rw[sA zs a x h]
end NP
namespace Go.Proofs.YtjapjahfllomkaaGreatDoor
open NQ Go NP Go.RowKit
theorem pK(zs:List aq)(a:Bs)(hz:∀p∈zs,aW p.zone=true)(hl:zs.length<=100000):NQ.Fn cx 21 [.slice 3 (zs.map bn),.str a] (.d (.int .i64 (Mu (ba zs a)))) []:=by
 refine aB aP mixed Tryz.func21 (by kernel_rfl) rfl (ai rfl) ?_;conv=>whnf
 refine⟨Nat×Option (Nat×aq),λx=>⟨[(0,.d (.slice 3 (zs.map bn))),(1,.d (.str a)),(5,.d (.int .i64 (Mu x.2))),(6,.d (.int .i64 x.1))],[]⟩,
  λx=>x.1<=zs.length/\iT zs x.2/\fM (λp=>p.zone.apex==a) dI x.1 (zs.drop x.1) x.2=ba zs a,λx=>zs.length-x.1,
  ⟨(0,none),⟨Nat.zero_le _,(λx hx=>by cases hx),rfl⟩,ag.keep ⟨ab,ab,ab,ab,trivial⟩ trivial⟩,λ⟨k,b⟩ ⟨hk,hb,hinv⟩=>?_⟩
 dsimp only at hk hb hinv ⊢
 conv=>whnf
 refine ae (λh1=>?_) (λh1=>?_) <;> (rw[h1];conv=>whnf)
 . have hlt:k<zs.length:=by simpa using h1
   obtain⟨p,hp⟩:∃p,zs[k]? =some p:=⟨_,ah hlt⟩
   have hpv:=hz p (ar hp);rw[An hp]at hinv;have next:∀b',b' =bU (λp=>p.zone.apex==a) dI k p b->(k+1<=zs.length/\iT zs b' /\fM (λp=>p.zone.apex==a) dI (k+1) (zs.drop (k+1)) b' =ba zs a):=λb' e=>by
    rw[e];exact⟨hlt,hb.step hp,hinv⟩
   refine⟨au k,bn p,aA hp,?_⟩
   conv=>whnf
   refine ae (λh2=>?_) (λh2=>?_) <;> (rw[h2];conv=>whnf)
   . exact⟨(k+1,b),next _ (by unfold bU;rw[if_neg (by simpa using h2)]),by(show zs.length-(k+1)<zs.length-k;omega),ag.keep ⟨ab,ab,ab,⟨ak (by omega),rfl⟩,trivial⟩ trivial⟩
   have ha:(p.zone.apex==a)=true:=by simpa using h2
   cases b with
   |none =>
    conv=>whnf
    exact⟨(k+1,some (k,p)),next _ (by unfold bU;rw[if_pos ha]),by(show zs.length-(k+1)<zs.length-k;omega),ag.keep ⟨ab,ab,ab,⟨ak (by omega),rfl⟩,trivial⟩ trivial⟩
   |some x =>
    have hx:=hb x rfl;have hxv:=hz x.2 (ar hx);have hnew:=ET hpv hxv
    conv=>whnf
    refine⟨au k,bn p,aA hp,?_⟩
    conv=>whnf
    (refine⟨_,_,wG p.zone hpv,?_⟩;conv=>whnf)
    refine⟨au x.1,bn x.2,aA hx,?_⟩
    conv=>whnf
    (refine⟨_,_,wG x.2.zone hxv,?_⟩;conv=>whnf)
    (refine⟨(by kernel_rfl:bc _ _=true),?_⟩;conv=>whnf)
    repeat' (first
     |(refine ae (λh=>?_) (λh=>?_) <;> (rw[h];conv=>whnf))
     |(refine⟨au k,bn p,aA hp,?_⟩;conv=>whnf)
     |(refine⟨au x.1,bn x.2,aA hx,?_⟩;conv=>whnf)
     |fail)
    all_goals first
     |(refine⟨(k+1,some (k,p)),next _ (by unfold bU;rw[if_pos ha];dsimp only;rw[if_pos (by rw[hnew];simp_all;done)]),by(show zs.length-(k+1)<zs.length-k;omega),ag.keep ⟨ab,ab,ab,⟨ak (by omega),rfl⟩,trivial⟩ trivial⟩;done)
     |(refine⟨(k+1,some x),next _ (by unfold bU;rw[if_pos ha];dsimp only;rw[if_neg (by rw[hnew];simp_all;done)]),by(show zs.length-(k+1)<zs.length-k;omega),ag.keep ⟨ab,ab,ab,⟨ak (by omega),rfl⟩,trivial⟩ trivial⟩;done)
     |(refine⟨(k+1,some x),next _ (by unfold bU;rw[if_pos ha];dsimp only;rw[if_neg (by rw[hnew];simp_all;omega)]),by(show zs.length-(k+1)<zs.length-k;omega),ag.keep ⟨ab,ab,ab,⟨ak (by omega),rfl⟩,trivial⟩ trivial⟩;done)
 . obtain rfl:k=zs.length:=by simp at h1;omega
   refine af rfl ?_;rw[<- hinv,List.drop_length];rfl
theorem GX(zs:List aq)(q:aQ)(hg:kT zs)(hq:bx q=true)(hl:zs.length<=100000) :
 NQ.Fn cx 195 [.slice 3 (zs.map bn),.agg (cL q)] (.tuple [.agg ((ee (cF zs q).1).map .d),.d (.int .i64 (if (cF zs q).2=true then 0 else 34))]) []:=by
 refine aB aP mixed Tryz.func195 (by kernel_rfl) rfl (ai rfl) ?_;conv=>whnf
 have hz:∀p∈zs,aW p.zone=true:=λp hp=>(hg p hp).2
 (refine⟨_,_,pK zs [46] hz hl,?_⟩;conv=>whnf)
 refine⟨Nat×Bs,λx=>⟨[(0,.d (.slice 3 (zs.map bn))),(3,.ptr 3 0),(4,.ptr 4 0),(6,.d (.int .i64 (Mu (ba zs x.2))))],[(3,.box ((cL q).map .d)),(4,.box [.d (.int .i64 0),.nil 5,.d (.str [])])]⟩,
  λx=>aF q.name x.2=true/\(back q.name).length+1<=x.1+(back x.2).length/\iy zs (fy zs) q (x.1+1) x.2=cF zs q,λx=>x.1,
  ⟨((back q.name).length+1,[46]),⟨kN q.name,by omega,rfl⟩,ag.keep ⟨ab,ab,ab,ab,trivial⟩ ⟨ab,ab,trivial⟩⟩,λ⟨f,a⟩ ⟨hu,hf,hinv⟩=>?_⟩
 dsimp only at hu hf hinv ⊢;rw[qk]at hinv;cases hc:ba zs a with
 |none =>
  rw[hc]at hinv
  conv=>whnf
  refine af rfl ?_;rw[<- hinv];rfl
 |some x =>
  rw[hc]at hinv;have hx:=sA zs a x hc;have hg' :=hg x.2 (ar hx)
  conv=>whnf
  (refine⟨(by kernel_rfl:bc _ _=true),?_⟩;conv=>whnf)
  refine⟨au x.1,bn x.2,aA hx,?_⟩
  conv=>whnf
  (refine⟨_,_,OL x.2.zone q hg'.1,?_⟩;conv=>whnf)
  dsimp only at hinv;refine ae (λh2=>?_) (λh2=>?_) <;> (rw[h2];conv=>whnf)
  . have h2' :((cn x.2.zone q).1.kind != 4)=true:=h2;rw[if_pos h2']at hinv;refine af rfl ?_;rw[<- hinv];rfl
  . have h2' :((cn x.2.zone q).1.kind != 4)=false:=h2;rw[if_neg (by rw[h2'];simp)]at hinv;have hfi:fH a (fy zs)=some x.1:=by rw[Bi,hc];rfl
    obtain⟨u,r1,r2,r3⟩:=vi hg hq (qN zs) hu hf hfi hx h2';obtain⟨f,rfl⟩:∃g,f=g+1:=⟨f-1,by omega⟩
    (refine⟨_,_,pK zs (cn x.2.zone q).1.cut hz hl,?_⟩;conv=>whnf)
    exact⟨(f,(cn x.2.zone q).1.cut),⟨r1,by dsimp only;omega,hinv⟩,by(show f<f+1;omega),ag.keep ⟨ab,ab,ab,ab,trivial⟩ ⟨ab,ab,trivial⟩⟩
set_option maxHeartbeats 1000000 in
theorem Kz(w:ay)(q0:aQ)(hF:cU w):NQ.Fn cx 122 [.agg (bw w),.agg (cL q0)] (.tuple [.agg ((ee (cN w q0).1).map .d),.d (.int .i64 (cN w q0).2)]) []:=by
 refine cK (fun|11=>[66666]|_=>[]) aP mixed Tryz.func122 (by kernel_rfl) rfl (ai rfl) ?_
 conv=>whnf
 (refine⟨_,_,Bm w (by have:=hF.hosts;omega) (by have:=hF.zones;omega) (by have:=hF.hints;omega) (λp hp=>by have:=(cS (hF.few p hp)).1;omega),?_⟩;conv=>whnf)
 (refine⟨_,_,A3 q0,?_⟩;conv=>whnf)
 have bad:(aU w&&bx q0)=false->cN w q0=(jm,1):=λh=>by unfold cN;rw[if_pos h]
 refine ae (λh1=>?_) (λh1=>?_) <;> (rw[h1];conv=>whnf)
 . refine af rfl ?_;rw[bad (by simp_all)];rfl
 refine ae (λh2=>?_) (λh2=>?_) <;> (rw[h2];conv=>whnf)
 . refine af rfl ?_;rw[bad (by simp_all)];rfl
 have hval:aU w=true:=by simpa using h1
 have hq0:bx q0=true:=by simpa using h2
 have hg:kT w.zones:=λp hp=>⟨hF.few p hp,(bS hval p hp).1⟩
 have htr:cN w q0=fF w.zones 9 q0 []:=by unfold cN;rw[if_neg (by rw[hval,hq0];simp)]
 refine⟨aQ×List Signed,λx=>⟨[(2,.ptr 2 0),(3,.ptr 3 0),(4,.ptr 4 0),(8,.own 8)],[(2,.box ((bw w).map .d)),(3,.box ((cL x.1).map .d)),(4,.box [.d (.int .i64 0),.nil 5,.d (.str [])]),(8,.row 74 5 (x.2.map an))]⟩,
  λx=>bx x.1=true/\x.2.length<=9/\fF w.zones (9-x.2.length) x.1 x.2=cN w q0,λx=>9-x.2.length,
  ⟨(q0,[]),⟨hq0,by simp,by rw[htr];rfl⟩,(ag.jX 8 8 5 74 5 rfl rfl (by decide)).trans (ag.keep ⟨ab,ab,ab,ab,trivial⟩ ⟨ab,ab,ab,ab,trivial⟩)⟩,λ⟨q,kept⟩ ⟨hq,hkl,hinv⟩=>?_⟩
 dsimp only at hq hkl hinv ⊢
 conv=>whnf
 refine ae (λh0=>?_) (λh0=>?_) <;> (rw[h0];conv=>whnf)
 case refine_2 =>
  have h9:kept.length=9:=by simp at h0;omega
  rw[h9]at hinv;refine af rfl ?_;rw[<- hinv];rfl
 have hk8:kept.length<=8:=by simp at h0;omega
 obtain⟨f,hf⟩:∃f,9-kept.length=f+1:=⟨8-kept.length,by omega⟩
 rw[hf]at hinv;unfold fF at hinv
 (refine⟨_,_,GX w.zones q hg hq (by have:=hF.zones;omega),?_⟩;conv=>whnf)
 cases hok:(cF w.zones q).2 with
 |false =>
  rw[if_pos (by rw[hok];rfl)]at hinv
  conv=>whnf
  refine af rfl ?_;rw[<- hinv];rfl
 |true =>
 rw[if_neg (by rw[hok];simp)]at hinv
 conv=>whnf
 obtain⟨p,hpm,u,hpa,hp4⟩:=qh hg hq (x:=(cF w.zones q).1) (by rw[<- hok]);have hal:(cF w.zones q).1.sets.length<=1000:=by rw[hpa];exact zj u.few q
 refine ae (λh2=>?_) (λh2=>?_) <;> (rw[h2];conv=>whnf)
 . rw[if_pos h2]at hinv
   (refine⟨(by kernel_rfl:gV _=true),?_⟩;conv=>whnf)
   repeat' (first
    |(refine⟨by(show(kept.map an).length+((cF w.zones q).1.sets.map an).length<=_;simp;omega),by(show((kept.map an).length+((cF w.zones q).1.sets.map an).length)*80<=_;simp;omega),?_⟩;conv=>whnf)
    |(refine⟨by kernel_rfl,?_⟩;conv=>whnf)
    |(refine⟨?_,?_⟩ <;> (conv=>whnf))
    |fail)
   refine af rfl ?_;rw[<- hinv];show AV.tuple _=AV.tuple _
   simp[ee];exact⟨rfl,rfl⟩
 rw[if_neg (by rw[h2];simp)]at hinv;have hk3:(cn p.zone q).1.kind=3:=by rw[<- hpa];simpa using h2
 obtain⟨s,R,d,hs,hsm,hst,hsd,hdv⟩:=u.B9 hk3;rw[<- hpa]at hs;rw[hs]at hinv;simp only[List.head?_cons,hsd]at hinv;rw[hs];refine⟨by decide,an s,rfl,?_⟩
 conv=>whnf
 refine⟨by(show(kept.map an).length+1<=_);simp;omega,by(show((kept.map an).length+1)*80<=_);simp;omega,?_⟩
 conv=>whnf
 refine⟨by decide,an s,rfl,?_⟩
 conv=>whnf
 refine⟨by decide,bd d,(by rw[hsd];rfl:(s.set.data.map bd)[(0:Int).toNat]? =some (bd d)),?_⟩
 conv=>whnf
 refine⟨(⟨d.text,q.type⟩,kept++[s]),⟨?_,by simp;omega,?_⟩,by(show 9-(kept++[s]).length<9-kept.length);simp;omega,ag.keep ⟨ab,ab,ab,ab,trivial⟩ ⟨ab,ab,ab,⟨?_,rfl⟩,trivial⟩⟩
 . unfold bx at hq ⊢;simp only[aC]at hq ⊢;exact⟨⟨hdv,hq.1.2⟩,hq.2⟩
 . rw[<- hinv]
   congr 1
   simp;omega
 . show some (Blk.row _ _ (kept.map an++[an s]) _)=_
   rw[List.map_append];rfl
end Go.Proofs.YtjapjahfllomkaaGreatDoor
namespace NP
open NQ Go
def IE(w:ay)(l:List aq):ay:=⟨w.hosts,l,w.anchor,w.hints⟩
end NP
namespace Go.Proofs.YtjapjahfllomkaaGreatDoor
open NQ Go NP Go.RowKit
theorem qP(w:ay)(hF:cU w):NQ.Fn cx 43 [.agg (bw w)] (.d (.bool (aU w))) []:=Bq w (by have:=hF.hosts;omega) (by have:=hF.zones;omega) (by have:=hF.hints;omega)
theorem y5(w:ay)(hF:cU w):NQ.Fn cx 59 [.agg (bw w)] (.d (.bool (aU w))) []:=Bm w (by have:=hF.hosts;omega) (by have:=hF.zones;omega) (by have:=hF.hints;omega) (λp hp=>by have:=(cS (hF.few p hp)).1;omega)
end Go.Proofs.YtjapjahfllomkaaGreatDoor
namespace NP
open NQ Go
theorem rH{zs:List aq}(hg:kT zs):∀(f:Nat) (q:aQ) (kept:List Signed),bx q=true->(∀s∈kept,∃p∈zs,s∈p.zone.sets) ->
 (∀s∈(fF zs f q kept).1.sets,∃p∈zs,s∈p.zone.sets)/\(fF zs f q kept).1.sets.length<=kept.length+f+1000
 |0,q,kept,_,_=>⟨λs hs=>(by cases hs),by simp[fF,jm]⟩
 |f+1,q,kept,hq,hk=>by
  unfold fF;cases hok:(cF zs q).2 with
  |false=>exact⟨λs hs=>(by cases hs),by simp[jm]⟩
  |true =>
   rw[if_neg (by simp)];obtain⟨p,hpm,u,hpa,hp4⟩:=qh hg hq (x:=(cF zs q).1) (by rw[<- hok]);split
   . refine⟨λs hs=>?_,?_⟩
     . rcases List.mem_append.1 hs with hs|hs
       . exact hk s hs
       . rw[hpa]at hs;exact⟨p,hpm,NH u.few q s hs⟩
     . have:=zj u.few q;show(kept++(cF zs q).1.sets).length<=_
       rw[List.length_append,hpa];omega
   . rename_i h2;have hk3:(cn p.zone q).1.kind=3:=by rw[<- hpa];simpa using h2
     obtain⟨s,R,d,hs,hsm,hst,hsd,hdv⟩:=u.B9 hk3;rw[<- hpa]at hs;rw[hs];simp only[List.head?_cons,hsd];have:=rH hg f ⟨d.text,q.type⟩ (kept++[s]) (by
      unfold bx at hq ⊢;simp only[aC]at hq ⊢;exact⟨⟨hdv,hq.1.2⟩,hq.2⟩) λx hx=>by
       rcases List.mem_append.1 hx with hx|hx
       . exact hk x hx
       . rw[List.mem_singleton]at hx;subst hx;exact⟨p,hpm,hsm⟩
     refine⟨this.1,?_⟩;have h:=this.2;rw[List.length_append,List.length_singleton]at h;omega
structure O9(a:Ans):Prop where
 len:a.sets.length<=100000
 small:∀s∈a.sets,s.set.data.length<=100000/\s.sigs.length<=100000
theorem nV{w:ay}(hF:cU w)(q:aQ):O9 (cN w q).1:=by
 unfold cN;split
 . exact⟨by decide,λs hs=>by cases hs⟩
 . rename_i h;have hv:aU w=true/\bx q=true:=by simpa using h
   have hg:kT w.zones:=λp hp=>⟨hF.few p hp,(bS hv.1 p hp).1⟩
   obtain⟨h1,h2⟩:=rH hg 9 q [] hv.2 (λs hs=>by cases hs);refine⟨by rw[List.length_nil]at h2;omega,λs hs=>?_⟩;obtain⟨p,hp,hm⟩:=h1 s hs;have:=(cS (hF.few p hp)).2 s hm;omega
end NP
namespace Go.Proofs.YtjapjahfllomkaaGreatDoor
open NQ Go NP Go.RowKit
end Go.Proofs.YtjapjahfllomkaaGreatDoor
namespace NP
open NQ Go
theorem Bj{w:ay}{q:aQ}(hv:aU w=true)(hq:bx q=true):cN w q=fF w.zones 9 q []:=by unfold cN;rw[if_neg (by rw[hv,hq];simp)]
end NP
namespace Go.Proofs.YtjapjahfllomkaaGreatDoor
open NQ Go NP Go.RowKit
end Go.Proofs.YtjapjahfllomkaaGreatDoor
namespace NP
open NQ Go
theorem pI{n:Nat}:∀(l seen:List aq),dA n seen l=true ↔ ((∀p∈l,((decide (p.host<0)||decide (p.host>=(n:Int))|| !aW p.zone)=false)/\seen.any (dx p)=false)/\l.Pairwise (λx p=>dx p x=false))
 |[],seen=>by simp[dA]
 |x::t,seen=>by
  rw[dA,aC,pI t,List.pairwise_cons];simp only[List.any_append,List.any_cons,List.any_nil,ji,Bool.not_eq_true',List.mem_cons,forall_eq_or_imp];constructor
  . rintro⟨h1,h2,h3⟩;simp only[Bool.or_eq_false_iff]at h1 h2 ⊢;exact⟨⟨⟨⟨h1.1.1,h1.2⟩,h1.1.2⟩,λp hp=>⟨(h2 p hp).1,(h2 p hp).2.1⟩⟩,λp hp=>(h2 p hp).2.2,h3⟩
  . rintro⟨⟨h1,h2⟩,h3,h4⟩;simp only[Bool.or_eq_false_iff]at h1 h2 ⊢;exact⟨⟨⟨h1.1.1,h1.2⟩,h1.1.2⟩,λp hp=>⟨(h2 p hp).1,(h2 p hp).2,h3 p hp⟩,h4⟩
theorem oA{α:Type}[BEq α][LawfulBEq α]:∀{a b:List α},a.Nodup->(∀x∈a,x∈b)->a.length<=b.length
 |[],b,_,_=>Nat.zero_le _
 |x::t,b,hn,hs=>by
  have hx:=hs x (List.mem_cons_self ..);rw[List.nodup_cons]at hn;have:=oA (b:=b.erase x) hn.2 λy hy=>(List.mem_erase_of_ne (λ(e:y=x)=>hn.1 (e ▸ hy))).2 (hs y (aK _ hy))
  rw[List.length_erase_of_mem hx]at this;have h0:0<b.length:=List.length_pos_of_mem hx;rw[List.length_cons];omega
theorem qV(l:List aq):(fE l).Nodup/\ ∀a,a∈fE l ↔ ∃p∈l,p.zone.apex=a:=by
 have key:∀(l:List aq) (out:List Bs),out.Nodup->(l.foldl (λout p=>if out.contains p.zone.apex=true then out else out++[p.zone.apex]) out).Nodup/\ ∀a,a∈l.foldl (λout p=>if out.contains p.zone.apex=true then out else out++[p.zone.apex]) out ↔ (a∈out\/ ∃p∈l,p.zone.apex=a):=λl=>by
  induction l with
  |nil=>intro out h;exact⟨h,λa=>by simp⟩
  |cons p t ih =>
   intro out h;simp only[List.foldl_cons];by_cases hc:out.contains p.zone.apex=true
   . rw[if_pos hc];obtain⟨h1,h2⟩:=ih out h;refine⟨h1,λa=>?_⟩;rw[h2];have hm:p.zone.apex∈out:=cq.1 hc;constructor
     . rintro(h|⟨q,hq,e⟩)
       . exact .inl h
       . exact .inr ⟨q,aK _ hq,e⟩
     . rintro(h|⟨q,hq,e⟩)
       . exact .inl h
       . rcases List.mem_cons.1 hq with rfl|hq
         . exact .inl (e ▸ hm)
         . exact .inr ⟨q,hq,e⟩
   . rw[if_neg hc];have hm:p.zone.apex ∉ out:=λe=>hc (cq.2 e)
     obtain⟨h1,h2⟩:=ih (out++[p.zone.apex]) (by
      rw[List.nodup_append];exact⟨h,by simp,λa ha b hb=>by rw[List.mem_singleton]at hb;subst hb;exact λe=>hm (e ▸ ha)⟩)
     refine⟨h1,λa=>?_⟩;rw[h2];constructor
     . rintro(h|⟨q,hq,e⟩)
       . rcases List.mem_append.1 h with h|h
         . exact .inl h
         . rw[List.mem_singleton]at h;exact .inr ⟨p,List.mem_cons_self .., h.symm⟩
       . exact .inr ⟨q,aK _ hq,e⟩
     . rintro(h|⟨q,hq,e⟩)
       . exact .inl (List.mem_append.2 (.inl h))
       . rcases List.mem_cons.1 hq with rfl|hq
         . exact .inl (List.mem_append.2 (.inr (by rw[List.mem_singleton];exact e.symm)))
         . exact .inr ⟨q,hq,e⟩
 obtain⟨h1,h2⟩:=key l [] List.nodup_nil;exact⟨h1,λa=>(h2 a).trans (by simp)⟩
theorem Gr{l l' :List aq}(h:∀p∈l',p∈l):(fE l').length<=(fE l).length:=by
 refine oA (qV l').1 λa ha=>?_
 obtain⟨p,hp,e⟩:=((qV l').2 a).1 ha;exact((qV l).2 a).2 ⟨p,h p hp,e⟩
end NP
namespace Go.Proofs.YtjapjahfllomkaaGreatDoor
open NQ Go NP Go.RowKit
end Go.Proofs.YtjapjahfllomkaaGreatDoor
namespace NP
open NQ Go
theorem Ao{ok:aq->Bool}{better:aq->aq->Bool}(hirr:∀p,better p p=false)(htr:∀p q r,better p q=true->better q r=true->better p r=true):∀(l:List aq) (i:Nat) (b:Option (Nat×aq)) (x:Nat×aq),fM ok better i l b=some x ->
 (b=some x\/(x.2∈l/\ok x.2=true))/\(∀e,(∀y,b=some y->better e y.2=false)->b≠none->better e x.2=false)/\ ∀p∈l,ok p=true->better p x.2=false
 |[],i,b,x,h=>by cases h;exact⟨.inl rfl,λe he _=>he x rfl,λp hp=>by cases hp⟩
 |p::t,i,b,x,h=>by
  have h' :fM ok better (i+1) t (bU ok better i p b)=some x:=h;obtain⟨h1,h2,h3⟩:=Ao hirr htr t (i+1) _ x h';by_cases hp:ok p=true
  . cases b with
    |none =>
     have e0:bU ok better i p none=some (i,p):=by unfold bU;rw[if_pos hp]
     rw[e0]at h1 h2;refine⟨.inr ?_,λe he hb=>absurd rfl hb,λq hq hoq=>?_⟩
     . rcases h1 with h1|h1
       . cases h1;exact⟨List.mem_cons_self .., hp⟩
       . exact⟨aK _ h1.1,h1.2⟩
     . rcases List.mem_cons.1 hq with rfl|hq
       . exact h2 q (λy hy=>by cases hy;exact hirr q) (by simp)
       . exact h3 q hq hoq
    |some y =>
     by_cases hbt:better p y.2=true
     . have e0:bU ok better i p (some y)=some (i,p):=by unfold bU;rw[if_pos hp];dsimp only;rw[if_pos hbt]
       rw[e0]at h1 h2;refine⟨.inr ?_,λe he _=>?_,λq hq hoq=>?_⟩
       . rcases h1 with h1|h1
         . cases h1;exact⟨List.mem_cons_self .., hp⟩
         . exact⟨aK _ h1.1,h1.2⟩
       . refine h2 e (λz hz=>?_) (by simp);cases hz;cases hc:better e p with
         |false=>rfl
         |true =>
          have:=htr e p y.2 hc hbt;rw[he y rfl]at this;cases this
       . rcases List.mem_cons.1 hq with rfl|hq
         . exact h2 q (λz hz=>by cases hz;exact hirr q) (by simp)
         . exact h3 q hq hoq
     . have e0:bU ok better i p (some y)=some y:=by unfold bU;rw[if_pos hp];dsimp only;rw[if_neg hbt]
       rw[e0]at h1 h2;refine⟨h1.imp id λh1=>⟨aK _ h1.1,h1.2⟩,λe he hb=>h2 e he hb,λq hq hoq=>?_⟩;rcases List.mem_cons.1 hq with rfl|hq
       . exact h2 q (λz hz=>by cases hz;simpa using hbt) (by simp)
       . exact h3 q hq hoq
  . have e0:bU ok better i p b=b:=by unfold bU;rw[if_neg hp]
    rw[e0]at h1 h2;refine⟨h1.imp id λh1=>⟨aK _ h1.1,h1.2⟩,h2,λq hq hoq=>?_⟩;rcases List.mem_cons.1 hq with rfl|hq
    . exact absurd hoq hp
    . exact h3 q hq hoq
theorem oz(p q:aq):dI p q=true ↔ (dX q.zone).1<(dX p.zone).1\/((dX p.zone).1=(dX q.zone).1/\p.host<q.host):=by
 unfold dI;simp
theorem J1(p:aq):dI p p=false:=by
 rw[<- Bool.not_eq_true,oz];omega
theorem Mj(p q r:aq)(h:dI p q=true)(k:dI q r=true):dI p r=true:=by
 rw[oz]at h k ⊢;omega
theorem dB{zs:List aq}{a:Bs}{x:Nat×aq}(h:ba zs a=some x):x.2∈zs/\x.2.zone.apex=a/\ ∀p∈zs,p.zone.apex=a->dI p x.2=false:=by
 obtain⟨h1,_,h3⟩:=Ao J1 Mj zs 0 none x h;rcases h1 with h1|h1
 . cases h1
 . exact⟨h1.1,by simpa using h1.2,λp hp ha=>h3 p hp (by simpa using ha)⟩
theorem uf{zs:List aq}{a:Bs}:ba zs a=none ↔ ∀p∈zs,p.zone.apex≠a:=by
 unfold ba;rw[tX];simp
theorem tK{zs zs' :List aq}(h:∀a,(ba zs a).map (·.2)=(ba zs' a).map (·.2))(q:aQ):∀(f:Nat) (a:Bs),iy zs (fy zs) q f a=iy zs' (fy zs') q f a
 |0,a=>rfl
 |f+1,a=>by
  rw[qk,qk];have:=h a;cases hx:ba zs a with
  |none =>
   cases hy:ba zs' a with
   |none=>rfl
   |some y=>rw[hx,hy]at this;cases this
  |some x =>
   cases hy:ba zs' a with
   |none=>rw[hx,hy]at this;cases this
   |some y =>
    rw[hx,hy]at this;have e:x.2=y.2:=Option.some.inj this;dsimp only;rw[e,tK h q f]
theorem tL{zs zs' :List aq}(h:∀a,(ba zs a).map (·.2)=(ba zs' a).map (·.2)):∀(f:Nat) (q:aQ) (kept:List Signed),fF zs f q kept=fF zs' f q kept
 |0,q,kept=>rfl
 |f+1,q,kept=>by
  have e:cF zs q=cF zs' q:=tK h q _ _;unfold fF;rw[e];split
  . rfl
  . split
    . rfl
    . cases (cF zs' q).1.sets.head? with
      |none=>rfl
      |some s =>
       dsimp only;cases s.set.data.head? with
       |none=>rfl
       |some d=>exact tL h f _ _
theorem Ff{w w' :ay}{q:aQ}(hv:aU w=true)(hv' :aU w' =true)(hq:bx q=true)(h:∀a,(ba w.zones a).map (·.2)=(ba w'.zones a).map (·.2)):cN w q=cN w' q:=by
 rw[Bj hv hq,Bj hv' hq,tL h]
def gA(z:az):Int:=match z.sets.find? (λs=>s.set.type==4)with|some s=>(match s.set.data[0]? with|some d=>d.n|none=>0)|none=>0
theorem F8{z:az}(hv:aW z=true):gA z=gC z:=by
 have V:=dw.1 hv;obtain⟨s,hs,hm,hp⟩:=xi V.ord (q:=⟨z.apex,4⟩) V.ord.apex V.start;have hp4:s.set.type=4:=congrArg Prod.snd hp;have hR:RP z.sets:=V.ord.rising.pw;unfold gA gC;rw[hs];cases hf:z.sets.find? (λs=>s.set.type==4)with
 |none =>
  have:=List.find?_eq_none.1 hf s hm;simp[hp4]at this
 |some x =>
  have hx:=List.mem_of_find?_eq_some hf;have hx4:x.set.type=4:=by simpa using List.find?_some hf
  have hfit:=V.fit x hx;rw[hx4]at hfit;have hn:x.set.name=z.apex:=by simpa [fits] using hfit
  have:x=s:=hR.uniq hx hm (by
   rw[hp];show(x.set.name,x.set.type)=(z.apex,4)
   rw[hn,hx4])
  subst this;rfl
def gZ(p q:aq):Int:=jK [db (gA q.zone) (gA p.zone),db p.host q.host]
theorem mi(p q:aq):gZ p q<0 ↔ gA q.zone<gA p.zone\/(gA q.zone=gA p.zone/\p.host<q.host):=by
 unfold gZ jK db;by_cases h1:gA q.zone<gA p.zone
 . simp[h1]
 . by_cases h2:gA p.zone<gA q.zone
   . have:¬gA q.zone=gA p.zone:=by omega
     simp[h1,h2,this]
   . have:gA q.zone=gA p.zone:=by omega
     by_cases h3:p.host<q.host
     . simp[this,h3]
     . by_cases h4:q.host<p.host
       . simp[this,h3,h4]
       . simp[this,h3,h4]
theorem py(l:List aq):my gZ l:=by
 refine⟨λx _=>?_,λx _ y _ z _=>?_,λx _ y _ z _=>?_⟩
 . show ¬gZ x x<0
   rw[mi];omega
 . show gZ x y<0->gZ y z<0->gZ x z<0
   rw[mi,mi,mi];omega
 . show ¬gZ x y<0-> ¬gZ y z<0-> ¬gZ x z<0
   rw[mi,mi,mi];omega
theorem GD{p q:aq}(hp:aW p.zone=true)(hq:aW q.zone=true):gZ p q<0 ↔ dI p q=true:=by
 rw[mi,oz,yS hp,yS hq,F8 hp,F8 hq];dsimp only;omega
def rp(l:List aq)(a:Bs):Bool:=l.any λx=>x.zone.apex==a
def cm(out:List aq)(p:aq):List aq:=if rp out p.zone.apex=true then out else out++[p]
def j5(l:List aq):List aq:=l.foldl cm []
theorem H3(l:List aq)(p:aq):j5 (l++[p])=cm (j5 l) p:=by unfold j5;rw[List.foldl_append];rfl
theorem CS{l:List aq}{a:Bs}:rp l a=true ↔ ∃x∈l,x.zone.apex=a:=by
 unfold rp;simp
theorem rW{c:aq->aq->Int}:∀(l out:List aq),(out++l).Pairwise (λx y=> ¬c y x<0)->out.Pairwise (λx y=>x.zone.apex≠y.zone.apex) ->
 (l.foldl cm out).Pairwise (λx y=>x.zone.apex≠y.zone.apex)/\(∀x∈l.foldl cm out,x∈out++l)/\(∀x∈out,x∈l.foldl cm out)/\ ∀x∈l,∃y∈l.foldl cm out,y.zone.apex=x.zone.apex/\(y=x\/ ¬c x y<0)
 |[],out,_,h=>⟨h,λx hx=>by simpa using hx,λx hx=>hx,λx hx=>by cases hx⟩
 |p::t,out,hs,h=>by
  show(t.foldl cm (cm out p)).Pairwise _/\(∀x∈t.foldl cm (cm out p),_)/\(∀x∈out,x∈t.foldl cm (cm out p))/\ ∀x∈p::t,∃y∈t.foldl cm (cm out p),_
  have hs0:=List.pairwise_append.1 hs;by_cases hp:rp out p.zone.apex=true
  . have e:cm out p=out:=by unfold cm;rw[if_pos hp]
    rw[e];have hs' :(out++t).Pairwise (λx y=> ¬c y x<0):=List.pairwise_append.2 ⟨hs0.1,(List.pairwise_cons.1 hs0.2.1).2,λa ha b hb=>hs0.2.2 a ha b (aK _ hb)⟩;obtain⟨k1,k2,k3,k4⟩:=rW t out hs' h;refine⟨k1,λx hx=>?_,k3,λx hx=>?_⟩
    . rcases List.mem_append.1 (k2 x hx)with hx|hx
      . exact List.mem_append.2 (.inl hx)
      . exact List.mem_append.2 (.inr (aK _ hx))
    . rcases List.mem_cons.1 hx with rfl|hx
      . obtain⟨y,hy,ha⟩:=CS.1 hp;exact⟨y,k3 y hy,ha,.inr (hs0.2.2 y hy x (List.mem_cons_self ..))⟩
      . exact k4 x hx
  . have e:cm out p=out++[p]:=by unfold cm;rw[if_neg hp]
    rw[e];have hs' :((out++[p])++t).Pairwise (λx y=> ¬c y x<0):=by rw[List.append_assoc];exact hs
    have hno:∀x∈out,x.zone.apex≠p.zone.apex:=λx hx ha=>hp (CS.2 ⟨x,hx,ha⟩)
    have h' :(out++[p]).Pairwise (λx y=>x.zone.apex≠y.zone.apex):=List.pairwise_append.2 ⟨h,List.pairwise_singleton _ _,λa ha b hb=>by rw[List.mem_singleton]at hb;subst hb;exact hno a ha⟩;obtain⟨k1,k2,k3,k4⟩:=rW t (out++[p]) hs' h';refine⟨k1,λx hx=>?_,λx hx=>k3 x (List.mem_append.2 (.inl hx)),λx hx=>?_⟩
    . have:=k2 x hx;rw[List.append_assoc]at this;exact this
    . rcases List.mem_cons.1 hx with rfl|hx
      . exact⟨x,k3 x (List.mem_append.2 (.inr (List.mem_singleton.2 rfl))),rfl,.inl rfl⟩
      . exact k4 x hx
def fg(zs:List aq):List aq:=j5 (ga gZ zs)
structure Ng(zs:List aq):Prop where
 apart:(fg zs).Pairwise (λx y=>x.zone.apex≠y.zone.apex)
 sub:∀x∈fg zs,x∈zs
 copy:∀a,(ba (fg zs) a).map (·.2)=(ba zs a).map (·.2)
 mem:∀x,x∈fg zs ↔ (ba zs x.zone.apex).map (·.2)=some x
theorem Pg{zs:List aq}(hv:∀p∈zs,aW p.zone=true)(hp:zs.Pairwise (λx p=>dx p x=false)):Ng zs:=by
 have hperm:=jD (py zs);obtain⟨k1,k2,_,k4⟩:=rW (c:=gZ) (ga gZ zs) [] (by simpa using vf (py zs)) List.Pairwise.nil;have k1:(fg zs).Pairwise (λx y=>x.zone.apex≠y.zone.apex):=k1;have sub:∀x∈fg zs,x∈zs:=λx hx=>hperm.subset (by simpa using k2 x hx)
 have uniq:∀{x y:aq},x∈fg zs->y∈fg zs->x.zone.apex=y.zone.apex->x=y:=λ{x y} hx hy e=>by
  by_cases h:x=y
  . exact h
  . have:∀{l:List aq},l.Pairwise (λx y=>x.zone.apex≠y.zone.apex)->x∈l->y∈l->x=y:=λ{l} hl=>by
     induction l with
     |nil=>intro h;cases h
     |cons a t ih =>
      intro h1 h2;have hl' :=List.pairwise_cons.1 hl;rcases List.mem_cons.1 h1 with e1|h1
      . rcases List.mem_cons.1 h2 with e2|h2
        . rw[e1,e2]
        . exact absurd (by rw[<- e1];exact e) (hl'.1 y h2)
      . rcases List.mem_cons.1 h2 with e2|h2
        . exact absurd (by rw[<- e2];exact e.symm) (hl'.1 x h1)
        . exact ih hl'.2 h1 h2
    exact this k1 hx hy
 have best:∀{x:aq},x∈fg zs-> ∀q∈zs,q.zone.apex=x.zone.apex->dI q x=false:=λ{x} hx q hq e=>by
  obtain⟨y,hy,ey,hc⟩:=k4 q (hperm.mem_iff.2 hq);have:y=x:=uniq hy hx (ey.trans e);subst this;rw[Bool.eq_false_iff];intro hn;rcases hc with hc|hc
  . subst hc;rw[oz]at hn;omega
  . exact hc ((GD (hv q hq) (hv _ (sub _ hx))).2 hn)
 have cp:∀{x:aq},x∈fg zs->(ba zs x.zone.apex).map (·.2)=some x:=λ{x} hx=>by
  cases h:ba zs x.zone.apex with
  |none=>exact absurd rfl (uf.1 h x (sub x hx))
  |some y =>
   obtain⟨h1,h2,h3⟩:=dB h;have b1:=best hx y.2 h1 h2;have b2:=h3 x (sub x hx) rfl;have:y.2=x:=by
    rw[Bool.eq_false_iff]at b1 b2;rw[Ne,oz]at b1 b2;exact AX hp h1 (sub x hx) (by omega) h2
   rw[<- this];rfl
 refine⟨k1,sub,λa=>?_,λx=>⟨cp,λh=>?_⟩⟩
 . cases h:ba (fg zs) a with
   |none =>
    cases h' :ba zs a with
    |none=>rfl
    |some y =>
     obtain⟨h1,h2,_⟩:=dB h';obtain⟨z,hz,ez,_⟩:=k4 y.2 (hperm.mem_iff.2 h1);exact absurd (ez.trans h2) (uf.1 h z hz)
   |some y =>
    obtain⟨h1,h2,_⟩:=dB h;have:=cp h1;rw[h2]at this;rw[this];rfl
 . cases hc:ba zs x.zone.apex with
   |none=>rw[hc]at h;cases h
   |some y =>
    rw[hc]at h;have ey:y.2=x:=by simpa using h
    obtain⟨h1,h2,_⟩:=dB hc;obtain⟨z,hz,ez,_⟩:=k4 y.2 (hperm.mem_iff.2 h1);have:=cp hz;rw[ez,h2,hc]at this;have e2:y.2=z:=by simpa using this
    rw[<- ey,e2];exact hz
theorem jg{w:ay}(h:aU w=true):Ng w.zones:=Pg (λp hp=>(bS h p hp).1) (Fl h)
theorem ra:∀(l out:List aq),(l.foldl cm out).length<=out.length+l.length
 |[],out=>by simp
 |p::t,out=>by
  have:=ra t (cm out p);have h2:(cm out p).length<=out.length+1:=by
   unfold cm;split
   . omega
   . simp
  show(t.foldl cm (cm out p)).length<=_
  rw[List.length_cons];omega
theorem zo(zs:List aq):(fg zs).length<=zs.length:=by
 have:=ra (ga gZ zs) [];rw[(jD (py zs)).length_eq]at this;simpa [fg,j5] using this
theorem Fm{w:ay}{l:List aq}(h:aU w=true)(hm:∀p∈l,p∈w.zones)(hl:l.length<=w.zones.length)(hp:l.Pairwise (λx p=>dx p x=false)):aU (IE w l)=true:=by
 unfold aU jR at h ⊢;simp only[aC,decide_eq_true_eq]at h ⊢;obtain⟨⟨h1,⟨h2,h3⟩,h4⟩,h5⟩:=h;have ha:=Gr (l:=w.zones) (l' :=l) hm;rw[zl]at h4;rw[pI]at h3;exact⟨⟨h1,⟨by show(l.length:Int)<=4000;omega,by
  show dA w.hosts.length [] l=true
  rw[pI];exact⟨λp hp=>h3.1 p (hm p hp),hp⟩⟩,by show((apx l).length:Int)<=500;rw[zl];omega⟩,h5⟩
def ub(w:ay):ay:=IE w (fg w.zones)
theorem I6{w:ay}(h:aU w=true):aU (ub w)=true:=by
 have C:=jg h;refine Fm h C.sub (zo _) (C.apart.imp λ{x y} hxy=>?_);unfold dx;rw[Bool.and_eq_false_iff];right;rw[beq_eq_false_iff_ne];exact Ne.symm hxy
theorem FD{w:ay}(hF:cU w)(h:aU w=true):cU (ub w) :=
 ⟨hF.hosts,Nat.le_trans (zo _) hF.zones,hF.hints,λp hp=>hF.few p ((jg h).sub p hp)⟩
theorem Ar{w:ay}{q:aQ}(h:aU w=true):cN (ub w) q=cN w q:=by
 by_cases hq:bx q=true
 . exact Ff (I6 h) h hq λa=>(jg h).copy a
 . have hq' :bx q=false:=by simpa using hq
   unfold cN;rw[if_pos (by rw[hq',gT]),if_pos (by rw[hq',gT])]
/-! ### Findings in order -/
structure Fnd where
 kind:Int
 zone:Bs
 name:Bs
deriving DecidableEq
def bD(f:Fnd):List D:=[.int .i64 f.kind,.str f.zone,.str f.name]
def eB(a b:Fnd):Int:=jK [db a.kind b.kind,aH a.zone b.zone,aH a.name b.name]
theorem vy(a b:Fnd):eB a b<0 ↔ a.kind<b.kind\/(a.kind=b.kind/\(aH a.zone b.zone<0\/(a.zone=b.zone/\aH a.name b.name<0))):=by
 unfold eB;rw[F1];have hz:=bl.zero a.zone b.zone;unfold db;by_cases h1:a.kind<b.kind
 . simp[h1]
 . by_cases h2:b.kind<a.kind
   . have:¬a.kind=b.kind:=by omega
     simp[h1,h2,this]
   . have h3:a.kind=b.kind:=by omega
     simp only[h1,h2,if_false,if_true];by_cases h4:aH a.zone b.zone=0
     . have h5:=hz.1 h4;rw[if_pos h4];have h6:¬aH a.zone b.zone<0:=by omega
       constructor
       . intro h;exact .inr ⟨h3,.inr ⟨h5,h⟩⟩
       . rintro(h|⟨_,h|⟨_,h⟩⟩)
         . exact h.elim
         . exact absurd h h6
         . exact h
     . have h5:¬a.zone=b.zone:=λe=>h4 (hz.2 e)
       rw[if_neg h4];simp[h3,h5]
theorem As{a b:Fnd}(h1:¬eB a b<0)(h2:¬eB b a<0):a=b:=by
 rw[vy]at h1 h2;have hk:a.kind=b.kind:=by omega
 have hz:a.zone=b.zone:=by
  have:=bl.anti a.zone b.zone;exact(bl.zero _ _).1 (by omega)
 have hn:a.name=b.name:=by
  have:=bl.anti a.name b.name;have h3:¬aH a.name b.name<0:=λe=>h1 (.inr ⟨hk,.inr ⟨hz,e⟩⟩)
  have h4:¬aH b.name a.name<0:=λe=>h2 (.inr ⟨hk.symm,.inr ⟨hz.symm,e⟩⟩)
  exact(bl.zero _ _).1 (by omega)
 cases a;cases b;simp at hk hz hn;simp[hk,hz,hn]
theorem tC{a b c:Bs}(h1:aH a b<0)(h2:aH b c<0):aH a c<0:=bl.Qa h1 (by omega)
theorem kX{a b c:Fnd}(h1:eB a b<0)(h2:eB b c<0):eB a c<0:=by
 rw[vy]at h1 h2 ⊢;rcases h1 with h1|⟨h1,h1'⟩
 . rcases h2 with h2|⟨h2,_⟩
   . exact .inl (by omega)
   . exact .inl (by omega)
 . rcases h2 with h2|⟨h2,h2'⟩
   . exact .inl (by omega)
   . refine .inr ⟨by omega,?_⟩;rcases h1' with h1' |⟨e1,h1'⟩
     . rcases h2' with h2' |⟨e2,h2'⟩
       . exact .inl (tC h1' h2')
       . exact .inl (by rw[<- e2];exact h1')
     . rcases h2' with h2' |⟨e2,h2'⟩
       . exact .inl (by rw[e1];exact h2')
       . exact .inr ⟨e1.trans e2,tC h1' h2'⟩
theorem sv(a:Fnd):¬eB a a<0:=by
 rw[vy];have h1:=(bl.zero a.zone a.zone).2 rfl;have h2:=(bl.zero a.name a.name).2 rfl;omega
def gH(l:List Fnd):Prop:=l.Pairwise λa b=>eB a b<0
theorem gH.nodup{l:List Fnd}(h:gH l):l.Nodup:=h.imp λ{a b} hab e=>by subst e;exact sv a hab
theorem gH.ext{a b:List Fnd}(ha:gH a)(hb:gH b)(h:∀x,x∈a ↔ x∈b):a=b :=
 List.Perm.eq_of_pairwise (le:=λa b=>eB a b<0) (λa b _ _ h1 h2=>absurd (kX h1 h2) (sv a)) ha hb ((List.perm_ext_iff_of_nodup ha.nodup hb.nodup).2 h)
def iO(f:Fnd):List Fnd->List Fnd
 |[]=>[f]
 |g::t=>if f=g then g::t else if eB f g<0 then f::g::t else g::iO f t
theorem ny(f x:Fnd):∀l,x∈iO f l ↔ x=f\/x∈l
 |[]=>by simp[iO]
 |g::t=>by
  unfold iO;split
  . rename_i h;subst h;simp
  . split
    . simp
    . rw[List.mem_cons,ny f x t,List.mem_cons];constructor
      . rintro(h|h|h)
        . exact .inr (.inl h)
        . exact .inl h
        . exact .inr (.inr h)
      . rintro(h|h|h)
        . exact .inr (.inl h)
        . exact .inl h
        . exact .inr (.inr h)
theorem ot(f:Fnd):∀{l:List Fnd},gH l->gH (iO f l)
 |[],_=>List.pairwise_singleton _ _
 |g::t,h=>by
  have h' :=List.pairwise_cons.1 h;unfold iO;split
  . exact h
  . rename_i hne;split
    . rename_i hlt;refine List.pairwise_cons.2 ⟨λx hx=>?_,h⟩;rcases List.mem_cons.1 hx with rfl|hx
      . exact hlt
      . exact kX hlt (h'.1 x hx)
    . rename_i hlt;refine List.pairwise_cons.2 ⟨λx hx=>?_,ot f h'.2⟩;rcases (ny f x t).1 hx with rfl|hx
      . rcases Classical.em (eB g x<0)with h1|h1
        . exact h1
        . exact absurd (As hlt h1) hne
      . exact h'.1 x hx
def lr(l:List Fnd):List Fnd:=l.foldl (λout f=>iO f out) []
theorem xI:∀(l out:List Fnd),gH out->gH (l.foldl (λout f=>iO f out) out)/\ ∀x,x∈l.foldl (λout f=>iO f out) out ↔ x∈out\/x∈l
 |[],out,h=>⟨h,λx=>by simp⟩
 |f::t,out,h=>by
  obtain⟨k1,k2⟩:=xI t (iO f out) (ot f h);refine⟨k1,λx=>(k2 x).trans ?_⟩;rw[ny,List.mem_cons];constructor
  . rintro((h|h)|h)
    . exact .inr (.inl h)
    . exact .inl h
    . exact .inr (.inr h)
  . rintro(h|h|h)
    . exact .inl (.inr h)
    . exact .inl (.inl h)
    . exact .inr h
theorem mS(l:List Fnd):gH (lr l):=(xI l [] List.Pairwise.nil).1
theorem ov{l:List Fnd}{x:Fnd}:x∈lr l ↔ x∈l:=((xI l [] List.Pairwise.nil).2 x).trans (by simp)
theorem rG{l l' :List Fnd}(h:∀x,x∈l ↔ x∈l'):lr l=lr l' :=(mS l).ext (mS l') λx=>by rw[ov,ov,h]
/-! ### Who serves what -/
def addrOf(hs:List ep)(k:Int):Int:=match hs[k.toNat]? with|some h=>h.addr|none=>0
def mR(w:ay)(p:aq):Bs×Int:=(p.zone.apex,addrOf w.hosts p.host)
def bH(w:ay)(a:Bs)(n:Int):Bool:=w.zones.any λp=>(p.zone.apex==a)&&(addrOf w.hosts p.host==n)
theorem uJ:∀(l:List ep) (seen:List Int),iu seen l=true->l.Pairwise (λx y=>x.addr≠y.addr)/\ ∀x∈l,x.addr ∉ seen
 |[],_,_=>⟨List.Pairwise.nil,λx hx=>by cases hx⟩
 |x::t,seen,h=>by
  unfold iu at h;simp only[aC,Bool.not_eq_true',Bool.or_eq_false_iff]at h;obtain⟨k1,k2⟩:=uJ t _ h.2;have hx:x.addr ∉ seen:=λe=>by
   have:=h.1.2.2;rw[cq.2 e]at this;cases this
  refine⟨List.Pairwise.cons (λy hy e=>k2 y hy (by rw[<- e];simp)) k1,λy hy=>?_⟩;rcases List.mem_cons.1 hy with rfl|hy
  . exact hx
  . exact λe=>k2 y hy (List.mem_append.2 (.inl e))
theorem yq{w:ay}(h:aU w=true):w.hosts.Pairwise (λx y=>x.addr≠y.addr):=by
 unfold aU kz at h;simp only[aC]at h;exact(uJ _ _ h.1.1.2).1
theorem xo:∀{l:List ep},l.Pairwise (λx y=>x.addr≠y.addr)-> ∀{k:Nat} {h:ep},l[k]? =some h->ij l h.addr=(k:Int)
 |[],_,k,h,hk=>by simp at hk
 |x::t,hp,k,h,hk=>by
  have hp' :=List.pairwise_cons.1 hp;cases k with
  |zero =>
   have:x=h:=by simpa using hk
   subst this;unfold ij;rw[List.findIdx?_cons,if_pos (by simp)]
  |succ k =>
   have hk' :t[k]? =some h:=by simpa using hk
   have ih:=xo hp'.2 hk';have hne:x.addr≠h.addr:=hp'.1 h (ar hk');unfold ij at ih ⊢;rw[List.findIdx?_cons,if_neg (by simpa using hne)];cases hf:t.findIdx? (λy=>y.addr==h.addr)with
   |none=>rw[hf]at ih;dsimp only at ih;omega
   |some j =>
    rw[hf]at ih;have:j=k:=by dsimp only at ih;omega
    subst this;rfl
theorem yp{l:List ep}{a:Int}{k:Nat}(h:ij l a=(k:Int)):∃x,l[k]? =some x/\x.addr=a:=by
 unfold ij at h;cases hf:l.findIdx? (λy=>y.addr==a)with
 |none=>rw[hf]at h;dsimp only at h;omega
 |some j =>
  rw[hf]at h;have e:j=k:=by dsimp only at h;omega
  subst e;obtain⟨h1,h2,_⟩:=List.findIdx?_eq_some_iff_getElem.1 hf;exact⟨l[j],ah h1,by simpa using h2⟩
theorem AF{w:ay}(h:aU w=true){p:aq}(hp:p∈w.zones)(n:Int):(p.host==ij w.hosts n)=(addrOf w.hosts p.host==n):=by
 obtain⟨_,h0,h1⟩:=bS h p hp;obtain⟨k,hk⟩:∃k:Nat,p.host=(k:Int):=⟨p.host.toNat,by omega⟩
 obtain⟨x,hx⟩:∃x,w.hosts[k]? =some x:=⟨_,ah (by omega)⟩
 have ha:addrOf w.hosts p.host=x.addr:=by unfold addrOf;rw[hk,Int.toNat_natCast,hx]
 rw[ha,hk];by_cases e:x.addr=n
 . subst e;rw[xo (yq h) hx];simp
 . have:¬(k:Int)=ij w.hosts n:=λe' =>by
    obtain⟨y,hy,hya⟩:=yp e'.symm;rw[hx]at hy;have:x=y:=by simpa using hy
    subst this;exact e hya
   rw[beq_eq_false_iff_ne.2 this,beq_eq_false_iff_ne.2 e]
/-! ### The servers of a zone -/
def bZ(z:az)(a:Bs):List Bs:=(z.sets.filter λs=>(s.set.name==a)&&(s.set.type==2)).flatMap λs=>s.set.data.map (·.text)
def iW(zs:List aq):Nat->Bs->Option Bs
 |0,_=>none
 |f+1,s=>if s=[46]then none else if (ba zs (bu s)).isSome=true then some (bu s)else iW zs f (bu s)
def dq(zs:List aq)(a:Bs):Option Bs:=iW zs ((aT a).length+1) a
def fX(zs:List aq)(b a:Bs):List Bs:=match ba zs b with|some x=>bZ x.2.zone a|none=>[]
def bF(zs:List aq)(a:Bs):List Bs×Bool:=match dq zs a with
 |some b=>(fX zs b a,decide (0<(fX zs b a).length))
 |none=>if a=[46]then(fX zs a a,true)else([],false)
/-! ### Addresses -/
def gY(A:Ans×Int):List Datum:=if A.2=0/\(A.1.kind=1\/A.1.kind=2)then(match (A.1.sets.filter λs=>s.set.type==1).getLast? with|some s=>s.set.data|none=>[])else[]
def cW(w:ay)(s:Bs):List Int:=(gY (cN w ⟨s,1⟩)).map (·.n)
def eT(z:az)(s:Signed):Bool:=(s.set.type==1)&& !(bo z s.set.name==[])
def mF(w:ay)(a s:Bs):List Fnd:=(if (cW w s).isEmpty=true then[⟨3,a,s⟩]else[])++(if (cW w s).any (λn=> !bH w a n)=true then[⟨1,a,s⟩]else[])
def lT(w:ay)(a:Bs)(s:gG):List Fnd:=if (cW w s.name==s.data.map (·.n))=true then[]else[⟨2,a,s.name⟩]
def jq(w:ay)(z:az):List Fnd:=if ((bF w.zones z.apex).2&&((bF w.zones z.apex).1==bZ z z.apex))=true then[]else[⟨4,z.apex,z.apex⟩]
def o6(w:ay)(z:az):List Fnd:=jq w z++(bF w.zones z.apex).1.flatMap (mF w z.apex)++(z.sets.filter (eT z)).flatMap λs=>lT w z.apex s.set
def findAll(w:ay):List Fnd:=(fg w.zones).flatMap λp=>o6 w p.zone
def GW(w:ay):List Fnd:=lr (findAll w)
end NP
