/-
  Texts of the proof, merged in build order.
-/
import Derived.Test.YtjapjahfllomkaaGreatDoorAbM
import Derived.Test.YtjapjahfllomkaaGreatDoorMGa
import Derived.Test.YtjapjahfllomkaaGreatDoorQsoM
import Derived.Test.YtjapjahfllomkaaGreatDoorSortM
import Derived.Test.YtjapjahfllomkaaGreatDoorMLrc
import Derived.Test.YtjapjahfllomkaaGreatDoorMCa
import Derived.Test.YtjapjahfllomkaaGreatDoorMVa
set_option linter.all false
set_option maxRecDepth 100000
namespace NP
open NQ Go
def eP(ok:ag->Bool)(better:ag->ag->Bool):Nat->List ag->Option (Nat×ag)->Option (Nat×ag)
 | _,[],b=>b
 | i,p::t,b=>eP ok better (i+1) t (if ok p=true then(match b with | none=>some (i,p) | some x=>if better p x.2=true then some (i,p)else b)else b)
def Cq:Option (Nat×ag)->Int
 | none=> -1
 | some x=>(x.1:Int)
def b5(ok:ag->Bool)(better:ag->ag->Bool)(i:Nat)(p:ag)(b:Option (Nat×ag)):Option (Nat×ag):=if ok p=true then(match b with | none=>some (i,p) | some x=>if better p x.2=true then some (i,p)else b)else b
theorem zd{ok:ag->Bool}{better:ag->ag->Bool}{l:List ag}{k:Nat}{p:ag}(h:l[k]? =some p)(b:Option (Nat×ag)):eP ok better k (l.drop k) b=eP ok better (k+1) (l.drop (k+1)) (b5 ok better k p b):=by
 rw[drop_cons h];rfl
def j4(zs:List ag)(b:Option (Nat×ag)):Prop:= ∀x,b=some x->zs[x.1]? =some x.2
theorem j4.step{zs:List ag}{b:Option (Nat×ag)}(h:j4 zs b){ok:ag->Bool}{better:ag->ag->Bool}{i:Nat}{p:ag}(hp:zs[i]? =some p):j4 zs (b5 ok better i p b):=by
 intro x hx;unfold b5 at hx;split at hx
 . split at hx
   . cases hx;exact hp
   . split at hx
     . cases hx;exact hp
     . exact h x hx
 . exact h x hx
theorem ym{zs:List ag}{ok:ag->Bool}{better:ag->ag->Bool}:∀(l:List ag) (i:Nat) (b:Option (Nat×ag)),(∀j,l[j]? =zs[i+j]?)->j4 zs b->j4 zs (eP ok better i l b)
 | [],i,b,_,h=>h
 | p::t,i,b,hl,h=>ym t (i+1) _ (fun j=>by have:=hl (j+1);simp at this;rw[this];congr 1;omega) (h.step (by have:=hl 0;simpa using this.symm))
theorem pz{ok:ag->Bool}{better:ag->ag->Bool}:∀(l:List ag) (i:Nat) (b:Option (Nat×ag)),eP ok better i l b=none ↔ (b=none/\ ∀p∈l,ok p=false)
 | [],i,b=>by simp[eP]
 | p::t,i,b=>by
  show eP ok better (i+1) t (b5 ok better i p b)=none ↔ _
  rw[pz t];unfold b5;cases hp:ok p <;> cases b <;> simp[hp];intro h;split at h <;> cases h
theorem Bc{ok:ag->Bool}{key:ag->Int}:∀(l:List ag) (i:Nat) (b:Option (Nat×ag)) (x:Nat×ag),eP ok (fun p q=>decide (key q<key p)) i l b=some x ->
 (b=some x\/(x.2∈l/\ok x.2=true))/\(∀y,b=some y->key y.2<=key x.2)/\ ∀p∈l,ok p=true->key p<=key x.2
 | [],i,b,x,h=>by cases h;exact⟨.inl rfl,fun y hy=>by cases hy;exact Int.le_refl _,fun p hp=>by cases hp⟩
 | p::t,i,b,x,h=>by
  obtain⟨h1,h2,h3⟩:=Bc t (i+1) (b5 ok (fun p q=>decide (key q<key p)) i p b) x h;unfold b5 at h1 h2;by_cases hp:ok p=true
  . rw[if_pos hp]at h1 h2;cases b with
    | none =>
     refine⟨.inr ?_,fun y hy=>(by cases hy),fun q hq hoq=>?_⟩
     . rcases h1 with h1 | h1
       . cases h1;exact⟨List.mem_cons_self .., hp⟩
       . exact⟨aW _ h1.1,h1.2⟩
     . rcases List.mem_cons.1 hq with rfl | hq
       . exact h2 (i,q) rfl
       . exact h3 q hq hoq
    | some y =>
     dsimp only at h1 h2;by_cases hb:key y.2<key p
     . rw[if_pos (decide_eq_true hb)]at h1 h2;have hpx:=h2 (i,p) rfl;refine⟨.inr ?_,fun z hz=>by cases hz;dsimp only at hpx;omega,fun q hq hoq=>?_⟩
       . rcases h1 with h1 | h1
         . cases h1;exact⟨List.mem_cons_self .., hp⟩
         . exact⟨aW _ h1.1,h1.2⟩
       . rcases List.mem_cons.1 hq with rfl | hq
         . exact hpx
         . exact h3 q hq hoq
     . rw[if_neg (by simpa using hb)]at h1 h2;have hyx:=h2 y rfl;refine⟨?_,fun z hz=>h2 z hz,fun q hq hoq=>?_⟩
       . rcases h1 with h1 | h1
         . exact .inl h1
         . exact .inr ⟨aW _ h1.1,h1.2⟩
       . rcases List.mem_cons.1 hq with rfl | hq
         . omega
         . exact h3 q hq hoq
  . rw[if_neg hp]at h1 h2;refine⟨?_,h2,fun q hq hoq=>?_⟩
    . rcases h1 with h1 | h1
      . exact .inl h1
      . exact .inr ⟨aW _ h1.1,h1.2⟩
    . rcases List.mem_cons.1 hq with rfl | hq
      . exact absurd hoq hp
      . exact h3 q hq hoq
def xK(s:Bs):Int:=((bd s).length:Int)
theorem CP{s:Bs}(h:an s=true):s ≠ []:=by rintro rfl;revert h;decide
def iu(host:Int)(nm nt:Bs)(p:ag):Bool:= !((decide (host>=0)&&(p.host != host))||(p.zone.apex==nt)|| !aM nm p.zone.apex)
def BW(p:ag):Int:=xK p.zone.apex
def qD(p q:ag):Bool:=decide (BW q<BW p)
def ov(zs:List ag)(host:Int)(nm nt:Bs):Option (Nat×ag):=eP (iu host nm nt) qD 0 zs none
def bU(zs:List ag)(a:Bs):Option (Nat×ag):=eP (fun p=>p.zone.apex==a) du 0 zs none
theorem Ad{zs:List ag}{a:Bs}:∀(l:List ag) (i:Nat) (m:List (Bs×Nat)) (b:Option (Nat×ag)),(∀j,l[j]? =zs[i+j]?)->j4 zs b->er a m=b.map (·.1)->er a (iF zs i l m)=(eP (fun p=>p.zone.apex==a) du i l b).map (·.1)
 | [],i,m,b,_,_,h=>h
 | p::t,i,m,b,hl,hb,h=>by
  have hp:zs[i]? =some p:=by have:=hl 0;simpa using this.symm
  show er a (iF zs (i+1) t (if gr zs m p=true then fy p.zone.apex i m else m))=(eP (fun p=>p.zone.apex==a) du (i+1) t (b5 (fun p=>p.zone.apex==a) du i p b)).map (·.1)
  refine Ad t (i+1) _ _ (fun j=>by have:=hl (j+1);simp at this;rw[this];congr 1;omega) (hb.step hp) ?_;by_cases ha:p.zone.apex=a
  . have hb' :∀b,b5 (fun p=>p.zone.apex==a) du i p b=(match b with | none=>some (i,p) | some x=>if du p x.2=true then some (i,p)else b):=fun b=>by
     unfold b5;exact if_pos (by show(p.zone.apex==a)=true;rw[ha];exact beq_self_eq_true a)
    rw[hb'];cases b with
    | none =>
     have ht:gr zs m p=true:=by unfold gr;rw[ha,h];rfl
     rw[if_pos ht,nV,if_pos ha];rfl
    | some x =>
     have hx:=hb x rfl;have ht:gr zs m p=du p x.2:=by unfold gr;rw[ha,h];simp only[Option.map_some];rw[hx]
     dsimp only;rw[ht];split
     . rw[nV,if_pos ha];rfl
     . exact h
  . have hb' :b5 (fun p=>p.zone.apex==a) du i p b=b:=by unfold b5;exact if_neg (by simpa using ha)
    rw[hb'];split
    . rw[nV,if_neg ha];exact h
    . exact h
theorem pW(zs:List ag)(a:Bs):er a (dw zs)=(bU zs a).map (·.1):=Ad zs 0 [] none (fun j=>by rw[Nat.zero_add]) (fun x hx=>by cases hx) rfl
theorem rr(zs:List ag)(a:Bs):j4 zs (bU zs a):=ym zs 0 none (fun j=>by rw[Nat.zero_add]) (fun x hx=>by cases hx)
theorem Ks{zs:List ag}{K:Int}{nm nt:Bs}{x:Nat×ag}(h:ov zs K nm nt=some x):x.2∈zs/\iu K nm nt x.2=true/\ ∀p∈zs,iu K nm nt p=true->BW p<=BW x.2:=by
 obtain⟨h1,_,h3⟩:=Bc zs 0 none x h;rcases h1 with h1 | h1
 . cases h1
 . exact⟨h1.1,h1.2,h3⟩
def ib(l:List ag):List Bs:=l.foldl (fun out p=>if out.contains p.zone.apex=true then out else out++[p.zone.apex]) []
theorem uV(l:List ag)(p:ag):ib (l++[p])=if (ib l).contains p.zone.apex=true then ib l else ib l++[p.zone.apex]:=by unfold ib;rw[List.foldl_append];rfl
theorem Fs(l:List ag):(ib l).length<=l.length:=by
 have key:∀(l:List ag) (out:List Bs),(l.foldl (fun out p=>if out.contains p.zone.apex=true then out else out++[p.zone.apex]) out).length<=out.length+l.length:=fun l=>by
  induction l with
  | nil=>intro out;simp
  | cons p t ih =>
   intro out;refine Nat.le_trans (ih _) ?_;dsimp only;split <;> simp <;> omega
 have:=key l [];rw[List.length_nil,Nat.zero_add]at this;exact this
theorem xZ(a:Bs)(v:D):∀m:List (Bs×D),(cM a v m).map (·.1)=if (m.map (·.1)).contains a=true then m.map (·.1)else m.map (·.1)++[a]
 | []=>by simp[cM]
 | (b,x)::t=>by
  show(if a=b then _ else _::cM a v t).map (·.1)=_
  by_cases h:a=b
  . subst h;simp
  . rw[if_neg h];simp only[List.map_cons,List.contains_cons];rw[xZ a v t];have:(a==b)=false:=by simpa using h
    rw[this,aC];split <;> simp
theorem JW(l:List ag):(apx l).map (·.1)=ib l:=by
 have key:∀(l:List ag) (m:List (Bs×D)),(l.foldl (fun m p=>cM p.zone.apex (.bool true) m) m).map (·.1)=l.foldl (fun out p=>if out.contains p.zone.apex=true then out else out++[p.zone.apex]) (m.map (·.1)):=fun l=>by
  induction l with
  | nil=>intro m;rfl
  | cons p t ih=>intro m;simp only[List.foldl_cons];rw[ih,xZ]
 exact key l []
theorem MC(l:List ag):(apx l).length=(ib l).length:=by rw[<- JW,ao]
def mS(w:bX):Bool:=(w.zones.take 21).all (fun p=>eH p.zone&&decide (p.zone.apex.length<=100))&&(w.hosts.take 71).all (fun h=>decide (h.name.length<=100))&&decide ((w.zones.length:Int)<=20)&&decide ((w.hosts.length:Int)<=70)&&decide ((w.hints.length:Int)<=20)&&decide ((w.anchor.data.length:Int)<=20)
theorem KB{w:bX}(h:mS w=true):k7 w/\w.hosts.length<=70/\w.zones.length<=20/\w.hints.length<=20:=by
 unfold mS at h;simp only[aR,decide_eq_true_eq,aA]at h;obtain⟨⟨⟨⟨⟨h1,h2⟩,h3⟩,h4⟩,h5⟩,h6⟩:=h;have:w.zones.take 21=w.zones:=List.take_of_length_le (by omega);rw[this]at h1;exact⟨⟨by omega,by omega,by omega,fun p hp=>(h1 p hp).1⟩,by omega,by omega,by omega⟩
end NP
namespace Go.Proofs.YtjapjahfllomkaaGreatDoor
open NQ Go NP Go.RowKit
theorem Ip(l:List pv)(hl:l.length<=100000):NQ.Fn cx 113 [.slice 3 (l.map kK)] (.d (.bool (ln l))) []:=by
 refine aP bf mixed Tryz.func113 (by kernel_rfl) rfl (ai rfl) ?_;conv=>whnf
 rw[ao];refine ae (fun h=>?_) (fun h=>?_) <;> (rw[h];conv=>whnf)
 . refine af rfl ?_;show AV.d (D.bool _)=AV.d (D.bool _)
   congr 2
   unfold ln;simp at h;simp;omega
 have hle:ln l=jN [] l:=by unfold ln;simp at h;simp;omega
 rw[hle];refine⟨Nat,fun k=>⟨[(0, .d (.slice 3 (l.map kK))),(3, .d (.int .i64 k))],[]⟩,fun k=>k<=l.length/\jN ((l.take k).map (·.addr)) (l.drop k)=jN [] l,fun k=>l.length-k,
  ⟨0,⟨Nat.zero_le _,rfl⟩,aj.keep ⟨⟨rfl,rfl⟩,⟨rfl,rfl⟩,trivial⟩ trivial⟩,fun k ⟨hk,hinv⟩=>?_⟩
 conv=>whnf
 refine ae (fun h1=>?_) (fun h1=>?_) <;> (rw[h1];conv=>whnf)
 . have hlt:k<l.length:=by simpa using h1
   obtain⟨x,hx⟩:∃x,l[k]? =some x:=⟨_,ah hlt⟩
   rw[xu hx]at hinv;refine⟨az k,kK x,aT hx,?_⟩
   conv=>whnf
   (refine⟨_,_,nD x.name,?_⟩;conv=>whnf)
   cases hv:an x.name with
   | false =>
    conv=>whnf
    refine af rfl ?_;rw[<- hinv,hv];rfl
   | true =>
    conv=>whnf
    (refine⟨_,_,AT x.name hv,?_⟩;conv=>whnf)
    rw[hv,L8 hv]at hinv
    repeat' (first | (refine ae (fun h=>?_) (fun h=>?_) <;> (rw[h];conv=>whnf)) | fail)
    all_goals first
     | (refine af rfl ?_;show AV.d (D.bool false)=AV.d (D.bool _);rw[<- hinv];clear hinv hle;unfold fC;simp_all;done)
     | skip
    all_goals first
     | (refine af rfl ?_;show AV.d (D.bool false)=AV.d (D.bool _);rw[<- hinv];clear hinv hle;unfold fC;simp_all;omega)
     | skip
    refine⟨Nat,fun j=>⟨[(0, .d (.slice 3 (l.map kK))),(3, .d (.int .i64 k)),(4, .ptr 4 0),(6, .d (.int .i64 j))],[(4, .box ((kK x).map .d))]⟩,fun j=>j<=k/\((l.take j).map (·.addr)).contains x.addr=false,fun j=>k-j,
     ⟨0,⟨Nat.zero_le _,rfl⟩,aj.keep ⟨⟨rfl,rfl⟩,⟨rfl,rfl⟩,⟨rfl,rfl⟩,⟨rfl,rfl⟩,trivial⟩ ⟨⟨rfl,rfl⟩,trivial⟩⟩,fun j ⟨hj,hno⟩=>?_⟩
    conv=>whnf
    refine ae (fun h2=>?_) (fun h2=>?_) <;> (rw[h2];conv=>whnf)
    . have hjk:j<k:=by simpa using h2
      obtain⟨y,hy⟩:∃y,l[j]? =some y:=⟨_,ah (by omega)⟩
      try (refine⟨(by kernel_rfl:bF _ _=true),?_⟩;conv=>whnf)
      refine⟨az j,kK y,aT hy,?_⟩
      conv=>whnf
      refine ae (fun h3=>?_) (fun h3=>?_) <;> (rw[h3];conv=>whnf)
      . refine af rfl ?_;show AV.d (D.bool false)=AV.d (D.bool _)
        have:((l.take k).map (·.addr)).contains x.addr=true:=by
         rw[cr,List.mem_map];exact⟨y,ar (i:=j) (by rw[List.getElem?_take,if_pos hjk];exact hy),by simpa using h3⟩
        rw[<- hinv,this];simp
      . refine⟨j+1,⟨hjk,?_⟩,by(show k-(j+1)<k-j;omega),aj.keep ⟨⟨rfl,rfl⟩,⟨rfl,rfl⟩,⟨rfl,rfl⟩,⟨aq (by omega),rfl⟩,trivial⟩ ⟨⟨rfl,rfl⟩,trivial⟩⟩;rw[bn hy,List.map_append];have h3' :(x.addr==y.addr)=false:=by
         rw[<- Bool.not_eq_true]at h3 ⊢;intro e;apply h3;simp at e ⊢;exact e.symm
        simp only[List.map_cons,List.map_nil];rw[Bool.eq_false_iff]at hno h3' ⊢;simp only[ne_eq,cr,List.mem_append,List.mem_singleton,beq_iff_eq]at hno h3' ⊢;rintro(e | e)
        . exact hno e
        . exact h3' e
    . obtain rfl:j=k:=by simp at h2;omega
      refine⟨j+1,⟨hlt,?_⟩,by(show l.length-(j+1)<l.length-j;omega),aj.keep ⟨⟨rfl,rfl⟩,⟨aq (by omega),rfl⟩,trivial⟩ trivial⟩;rw[bn hx,List.map_append, <- hinv,hno];clear hinv hle;show _=(_&&_&&_)
      unfold fC
      simp_all
      try omega
 . obtain rfl:k=l.length:=by simp at h1;omega
   refine af rfl ?_;rw[<- hinv,List.drop_length];rfl
theorem I8(s:gi)(hints:List Int)(hl:hints.length<=100000):NQ.Fn cx 114 [.agg (jX s), .slice 1 (hints.map dt)] (.d (.bool (nu s hints))) []:=by
 refine aP bf mixed Tryz.func114 (by kernel_rfl) rfl (ai rfl) ?_;conv=>whnf
 refine⟨Nat,fun k=>⟨[(1, .d (.slice 1 (hints.map dt))),(2, .ptr 2 0),(5, .d (.int .i64 k))],[(2, .box ((jX s).map .d))]⟩,fun k=>k<=hints.length/\(hints.take k).all fC=true,fun k=>hints.length-k,
  ⟨0,⟨Nat.zero_le _,rfl⟩,aj.keep ⟨⟨rfl,rfl⟩,⟨rfl,rfl⟩,⟨rfl,rfl⟩,trivial⟩ ⟨⟨rfl,rfl⟩,trivial⟩⟩,fun k ⟨hk,hall⟩=>?_⟩
 conv=>whnf
 refine ae (fun h1=>?_) (fun h1=>?_) <;> (rw[h1];conv=>whnf)
 . have hlt:k<hints.length:=by simpa using h1
   obtain⟨x,hx⟩:∃x,hints[k]? =some x:=⟨_,ah hlt⟩
   refine⟨az k,dt x,aT hx,?_⟩
   conv=>whnf
   have no:fC x=false->nu s hints=false:=fun hb=>by
    have:hints.all fC=false:=by
     rw[<- Bool.not_eq_true,aA];intro hh;rw[hh x (ar hx)]at hb;cases hb
    unfold nu;rw[this];simp
   refine ae (fun h2=>?_) (fun h2=>?_) <;> (rw[h2];conv=>whnf)
   . refine af rfl ?_;rw[no (by unfold fC;simp at h2 ⊢;omega)];rfl
   . refine⟨az k,dt x,aT hx,?_⟩
     conv=>whnf
     refine ae (fun h3=>?_) (fun h3=>?_) <;> (rw[h3];conv=>whnf)
     . refine af rfl ?_;rw[no (by unfold fC;simp at h2 h3 ⊢;omega)];rfl
     . refine⟨k+1,⟨hlt,?_⟩,by(show hints.length-(k+1)<hints.length-k;omega),aj.keep ⟨⟨rfl,rfl⟩,⟨rfl,rfl⟩,⟨aq (by omega),rfl⟩,trivial⟩ ⟨⟨rfl,rfl⟩,trivial⟩⟩;rw[bn hx,List.all_append,hall];simp at h2 h3;simp[fC];omega
 . obtain rfl:k=hints.length:=by simp at h1;omega
   rw[List.take_length]at hall
   (refine⟨_,_,CC s,?_⟩;conv=>whnf)
   repeat' (first | (refine ae (fun h=>?_) (fun h=>?_) <;> (rw[h];conv=>whnf)) | fail)
   all_goals (refine af rfl ?_;show AV.d (D.bool _)=AV.d (D.bool _);congr 2;(try simp only[ao]at *);unfold nu;rw[hall];simp only[*, if_true,if_false,aB,aK,aI,aJ,aO,aN,aC,aE,aH,aF,aG,aD])
theorem Ft(l:List ag)(hl:l.length<=100000):NQ.Fn cx 116 [.slice 3 (l.map cm)] (.d (.slice 1 ((ib l).map au))) []:=by
 refine aP bf mixed Tryz.func116 (by kernel_rfl) rfl (ai rfl) ?_;conv=>whnf
 refine⟨Nat,fun k=>⟨[(0, .d (.slice 3 (l.map cm))),(3, .own 100),(4, .d (.int .i64 k))],[(100, .row 9 1 ((ib (l.take k)).map au))]⟩,fun k=>k<=l.length,fun k=>l.length-k,
  ⟨0,Nat.zero_le _,(aj.jR 3 100 1 9 1 rfl rfl (by decide)).trans (aj.keep ⟨⟨rfl,rfl⟩,⟨rfl,rfl⟩,⟨rfl,rfl⟩,trivial⟩ ⟨⟨rfl,rfl⟩,trivial⟩)⟩,fun k hk=>?_⟩
 conv=>whnf
 refine ae (fun h1=>?_) (fun h1=>?_) <;> (rw[h1];conv=>whnf)
 . have hlt:k<l.length:=by simpa using h1
   obtain⟨x,hx⟩:∃x,l[k]? =some x:=⟨_,ah hlt⟩
   have hal:(ib (l.take k)).length<=k:=by have:=Fs (l.take k);rw[List.length_take]at this;omega
   generalize hA:ib (l.take k)=A at *
   refine⟨Nat×Bool,fun j=>⟨[(0, .d (.slice 3 (l.map cm))),(3, .own 100),(4, .d (.int .i64 k)),(5, .d (.bool j.2)),(6, .d (.int .i64 j.1))],[(100, .row 9 1 (A.map au))]⟩,fun j=>j.1<=A.length/\j.2=(A.take j.1).contains x.zone.apex,fun j=>A.length-j.1,
    ⟨(0,false),⟨Nat.zero_le _,rfl⟩,aj.keep ⟨⟨rfl,rfl⟩,⟨rfl,rfl⟩,⟨rfl,rfl⟩,⟨rfl,rfl⟩,⟨rfl,rfl⟩,trivial⟩ ⟨⟨by rw[<- hA];rfl,rfl⟩,trivial⟩⟩,fun⟨j,f⟩ ⟨hj,hf⟩=>?_⟩
   dsimp only at hj hf ⊢
   conv=>whnf
   refine ae (fun h2=>?_) (fun h2=>?_) <;> (rw[h2];conv=>whnf)
   . have hjl:j<A.length:=by simpa using h2
     obtain⟨y,hy⟩:∃y,A[j]? =some y:=⟨_,ah hjl⟩
     (refine⟨(by kernel_rfl:bF _ _=true),?_⟩;conv=>whnf)
     refine ae (fun h3=>?_) (fun h3=>?_) <;> (rw[h3];conv=>whnf)
     . refine⟨(j+1,true),⟨hjl,?_⟩,by(show A.length-(j+1)<A.length-j;omega),aj.keep ⟨⟨rfl,rfl⟩,⟨rfl,rfl⟩,⟨rfl,rfl⟩,⟨rfl,rfl⟩,⟨aq (by omega),rfl⟩,trivial⟩ ⟨⟨rfl,rfl⟩,trivial⟩⟩;dsimp only;rw[bn hy,List.contains_append, <- hf,h3];rfl
     . refine⟨az j,by(show j<(A.map au).length;rw[ao];exact hjl),?_⟩
       conv=>whnf
       refine⟨au y,aT hy,?_⟩
       conv=>whnf
       refine⟨az k,cm x,aT hx,?_⟩
       conv=>whnf
       refine⟨(j+1,y==x.zone.apex),⟨hjl,?_⟩,by(show A.length-(j+1)<A.length-j;omega),aj.keep ⟨⟨rfl,rfl⟩,⟨rfl,rfl⟩,⟨rfl,rfl⟩,⟨rfl,rfl⟩,⟨aq (by omega),rfl⟩,trivial⟩ ⟨⟨rfl,rfl⟩,trivial⟩⟩;dsimp only;rw[bn hy,List.contains_append, <- hf,h3,aC];simp only[List.contains_cons,List.contains_nil,aE];exact Bool.eq_iff_iff.2 ⟨fun h=>by simp at h ⊢;exact h.symm,fun h=>by simp at h ⊢;exact h.symm⟩
   . obtain rfl:j=A.length:=by simp at h2;omega
     rw[List.take_length]at hf;refine ae (fun h3=>?_) (fun h3=>?_) <;> (rw[h3];conv=>whnf)
     . have hc:A.contains x.zone.apex=false:=by rw[<- hf];simpa using h3
       refine⟨az k,cm x,aT hx,?_⟩
       conv=>whnf
       refine⟨by(show(A.map au).length+1<=_);simp;omega,by(show((A.map au).length+1)*16<=_);simp;omega,?_⟩
       conv=>whnf
       refine⟨k+1,hlt,by(show l.length-(k+1)<l.length-k;omega),aj.keep ⟨⟨rfl,rfl⟩,⟨rfl,rfl⟩,⟨aq (by omega),rfl⟩,trivial⟩ ⟨⟨?_,rfl⟩,trivial⟩⟩;rw[bn hx,uV,hA,if_neg (by rw[hc];simp),List.map_append];rfl
     . have hc:A.contains x.zone.apex=true:=by rw[<- hf];simpa using h3
       refine⟨k+1,hlt,by(show l.length-(k+1)<l.length-k;omega),aj.keep ⟨⟨rfl,rfl⟩,⟨rfl,rfl⟩,⟨aq (by omega),rfl⟩,trivial⟩ ⟨⟨?_,rfl⟩,trivial⟩⟩;rw[bn hx,uV,hA,if_pos hc];rfl
 . obtain rfl:k=l.length:=by simp at h1;omega
   refine af rfl ?_;rw[List.take_length];rfl
set_option maxHeartbeats 2000000 in
theorem Jz(w:bX)(h1:w.hosts.length<=100000)(h2:w.zones.length<=100000)(h3:w.hints.length<=100000)(h4:∀p∈w.zones,p.zone.sets.length<=100000):NQ.Fn cx 59 [.agg (bY w)] (.d (.bool (cO w))) []:=by
 refine aP bf mixed Tryz.func59 (by kernel_rfl) rfl (ai rfl) ?_;conv=>whnf
 (refine⟨_,_,Ip w.hosts h1,?_⟩;conv=>whnf)
 cases e1:ln w.hosts with
 | false =>
  conv=>whnf
  refine af rfl ?_;have:cO w=false:=by unfold cO;rw[e1];rfl
  rw[this];rfl
 | true =>
 conv=>whnf
 refine ae (fun g0=>?_) (fun g0=>?_) <;> (rw[g0];conv=>whnf)
 . refine af rfl ?_;have:cO w=false:=by
    have e3:decide ((w.zones.length:Int)<=4000)=false:=by
     have:=of_decide_eq_true g0;rw[ao]at this;exact decide_eq_false (by omega)
    unfold cO lU;rw[e3];simp
   rw[this];rfl
 (refine⟨_,_,I8 w.anchor w.hints h3,?_⟩;conv=>whnf)
 cases e2:nu w.anchor w.hints with
 | false =>
  conv=>whnf
  refine af rfl ?_;have:cO w=false:=by unfold cO;rw[e2];simp
  rw[this];rfl
 | true =>
 conv=>whnf
 have hyes:cO w=(fp w.hosts.length [] w.zones&&decide (((apx w.zones).length:Int)<=500)):=by
  have e3:(w.zones.length:Int)<=4000:=by
   have:=of_decide_eq_false g0;rw[ao]at this;omega
  unfold cO lU;rw[e1,e2,decide_eq_true e3];simp
 refine⟨Nat,fun k=>⟨[(1, .ptr 1 0),(3, .d (.int .i64 k))],[(1, .box ((bY w).map .d))]⟩,fun k=>k<=w.zones.length/\fp w.hosts.length (w.zones.take k) (w.zones.drop k)=fp w.hosts.length [] w.zones,fun k=>w.zones.length-k,
  ⟨0,⟨Nat.zero_le _,rfl⟩,aj.keep ⟨⟨rfl,rfl⟩,⟨rfl,rfl⟩,trivial⟩ ⟨⟨rfl,rfl⟩,trivial⟩⟩,fun k ⟨hk,hinv⟩=>?_⟩
 conv=>whnf
 refine ae (fun g1=>?_) (fun g1=>?_) <;> (rw[g1];conv=>whnf)
 . have hlt:k<w.zones.length:=by simpa using g1
   obtain⟨x,hx⟩:∃x,w.zones[k]? =some x:=⟨_,ah hlt⟩
   rw[u4 hx]at hinv;refine⟨az k,cm x,aT hx,?_⟩
   conv=>whnf
   (refine⟨_,_,zV x.zone (h4 x (ar hx)),?_⟩;conv=>whnf)
   have bad:(decide (x.host<0)||decide (x.host>=(w.hosts.length:Int))||(w.zones.take k).any (gR x)|| !bE x.zone)=true->cO w=false:=fun hb=>by
    rw[hyes, <- hinv,hb];rfl
   refine ae (fun g2=>?_) (fun g2=>?_) <;> (rw[g2];conv=>whnf)
   . refine af rfl ?_;rw[bad (by simp_all)];rfl
   refine ae (fun g3=>?_) (fun g3=>?_) <;> (rw[g3];conv=>whnf)
   . refine af rfl ?_;rw[bad (by simp_all)];rfl
   refine ae (fun g4=>?_) (fun g4=>?_) <;> (rw[g4];conv=>whnf)
   . refine af rfl ?_;rw[bad (by(try simp only[ao]at *);simp_all)];rfl
   refine⟨Nat,fun j=>⟨[(1, .ptr 1 0),(3, .d (.int .i64 k)),(4, .ptr 4 0),(6, .d (.int .i64 j))],[(1, .box ((bY w).map .d)),(4, .box ((cm x).map .d))]⟩,fun j=>j<=k/\(w.zones.take j).any (gR x)=false,fun j=>k-j,
    ⟨0,⟨Nat.zero_le _,rfl⟩,aj.keep ⟨⟨rfl,rfl⟩,⟨rfl,rfl⟩,⟨rfl,rfl⟩,⟨rfl,rfl⟩,trivial⟩ ⟨⟨rfl,rfl⟩,⟨rfl,rfl⟩,trivial⟩⟩,fun j ⟨hj,hno⟩=>?_⟩
   conv=>whnf
   refine ae (fun g5=>?_) (fun g5=>?_) <;> (rw[g5];conv=>whnf)
   . have hjk:j<k:=by simpa using g5
     obtain⟨y,hy⟩:∃y,w.zones[j]? =some y:=⟨_,ah (by omega)⟩
     (refine⟨(by kernel_rfl:bF _ _=true),?_⟩;conv=>whnf)
     refine⟨az j,cm y,aT hy,?_⟩
     conv=>whnf
     have next:gR x y=false->j+1<=k/\(w.zones.take (j+1)).any (gR x)=false:=fun hs=>⟨hjk,by rw[bn hy,List.any_append,hno];simp[hs]⟩
     refine ae (fun g6=>?_) (fun g6=>?_) <;> (rw[g6];conv=>whnf)
     . refine⟨az j,cm y,aT hy,?_⟩
       conv=>whnf
       refine ae (fun g7=>?_) (fun g7=>?_) <;> (rw[g7];conv=>whnf)
       . refine af rfl ?_;have:(w.zones.take k).any (gR x)=true:=by
          rw[List.any_eq_true];refine⟨y,ar (i:=j) (by rw[List.getElem?_take,if_pos hjk];exact hy),?_⟩;simp at g6 g7;simp[gR,g6,g7]
         rw[bad (by rw[this];simp)];rfl
       . exact⟨j+1,next (by unfold gR;simp at g7;rw[Bool.and_eq_false_iff];right;simp;exact fun e=>g7 e.symm),by(show k-(j+1)<k-j;omega),aj.keep ⟨⟨rfl,rfl⟩,⟨rfl,rfl⟩,⟨rfl,rfl⟩,⟨aq (by omega),rfl⟩,trivial⟩ ⟨⟨rfl,rfl⟩,⟨rfl,rfl⟩,trivial⟩⟩
     . exact⟨j+1,next (by unfold gR;simp at g6;rw[Bool.and_eq_false_iff];left;simp;exact fun e=>g6 e.symm),by(show k-(j+1)<k-j;omega),aj.keep ⟨⟨rfl,rfl⟩,⟨rfl,rfl⟩,⟨rfl,rfl⟩,⟨aq (by omega),rfl⟩,trivial⟩ ⟨⟨rfl,rfl⟩,⟨rfl,rfl⟩,trivial⟩⟩
   . obtain rfl:j=k:=by simp at g5;omega
     refine⟨j+1,⟨hlt,?_⟩,by(show w.zones.length-(j+1)<w.zones.length-j;omega),aj.keep ⟨⟨rfl,rfl⟩,⟨aq (by omega),rfl⟩,trivial⟩ ⟨⟨rfl,rfl⟩,trivial⟩⟩;rw[bn hx, <- hinv];clear hinv hyes bad;have e1:decide (x.host<0)=false:=g3;have e2:decide (x.host>=(w.hosts.length:Int))=false:=by(try simp only[ao]at g4);exact g4
     have e3:(!bE x.zone)=false:=g2;rw[e1,e2,e3,hno];simp
 . obtain rfl:k=w.zones.length:=by simp at g1;omega
   (refine⟨_,_,Ft w.zones h2,?_⟩;conv=>whnf)
   refine af rfl ?_;show AV.d (D.bool _)=AV.d (D.bool _)
   congr 2
   rw[List.drop_length]at hinv;rw[hyes, <- hinv,MC];simp[fp]
def FV:Nat->List Nat:=fun | 7=>[55555] | 12=>[55555] | _=>[]
theorem zm(w:bX)(hz:(w.zones.take 21).all (fun p=>eH p.zone&&decide (p.zone.apex.length<=100))=true)(hh:(w.hosts.take 71).all (fun h=>decide (h.name.length<=100))=true)(st:St)(hs:aj cx st ⟨[(1, .ptr 1 0)],[(1, .box ((bY w).map .d))]⟩) :
 vc cx Tryz.f12.ntmps FV (ny 3 ((Tryz.f12.body).getD .skip)) (fnQ cx Tryz.f12.results.toList (.d (.bool (mS w))) []) st:=by
 conv=>whnf
 refine⟨_,hs,?_⟩
 conv=>whnf
 have e:mS w=(decide ((w.zones.length:Int)<=20)&&decide ((w.hosts.length:Int)<=70)&&decide ((w.hints.length:Int)<=20)&&decide ((w.anchor.data.length:Int)<=20)):=by
  unfold mS;rw[hz,hh];rfl
 repeat' (first | (refine ae (fun h=>?_) (fun h=>?_) <;> (rw[h];conv=>whnf)) | fail)
 all_goals (refine af rfl ?_;show AV.d (D.bool _)=AV.d (D.bool _);congr 2;(try simp only[ao]at *);rw[e];simp only[*, if_true,if_false,aB,aK,aI,aJ,aO,aN,aC,aE,aH,aF,aG,aD])
theorem By(w:bX)(hz:(w.zones.take 21).all (fun p=>eH p.zone&&decide (p.zone.apex.length<=100))=true)(st:St)(hs:aj cx st ⟨[(1, .ptr 1 0)],[(1, .box ((bY w).map .d))]⟩) :
 vc cx Tryz.f12.ntmps FV (ny 2 ((Tryz.f12.body).getD .skip)) (fnQ cx Tryz.f12.results.toList (.d (.bool (mS w))) []) st:=by
 conv=>whnf
 refine⟨_,hs,?_⟩
 conv=>whnf
 refine⟨Nat,fun k=>⟨[(1, .ptr 1 0),(5, .d (.int .i64 k))],[(1, .box ((bY w).map .d))]⟩,fun k=>k<=w.hosts.length/\k<=71/\(w.hosts.take k).all (fun h=>decide (h.name.length<=100))=true,fun k=>w.hosts.length-k,
  ⟨0,⟨Nat.zero_le _,Nat.zero_le _,rfl⟩,aj.keep ⟨⟨rfl,rfl⟩,⟨rfl,rfl⟩,trivial⟩ ⟨⟨rfl,rfl⟩,trivial⟩⟩,fun k ⟨hk,hk2,hall⟩=>?_⟩
 conv=>whnf
 refine ae (fun g1=>?_) (fun g1=>?_) <;> (rw[g1];conv=>whnf)
 . have hlt:k<w.hosts.length:=by simpa using g1
   obtain⟨x,hx⟩:∃x,w.hosts[k]? =some x:=⟨_,ah hlt⟩
   refine ae (fun g2=>?_) (fun g2=>?_) <;> (rw[g2];conv=>whnf)
   . have hk3:k<71:=by simp at g2;omega
     refine⟨az k,kK x,aT hx,?_⟩
     conv=>whnf
     refine ae (fun g4=>?_) (fun g4=>?_) <;> (rw[g4];conv=>whnf)
     . refine af rfl ?_;have:(w.hosts.take 71).all (fun h=>decide (h.name.length<=100))=false:=by
        rw[<- Bool.not_eq_true,aA];intro h;have:=h x (ar (i:=k) (by rw[List.getElem?_take,if_pos hk3];exact hx));simp at g4 this;omega
       have:mS w=false:=by unfold mS;rw[this];simp
       rw[this];rfl
     . refine⟨k+1,⟨hlt,by omega,?_⟩,by(show w.hosts.length-(k+1)<w.hosts.length-k;omega),aj.keep ⟨⟨rfl,rfl⟩,⟨aq (by omega),rfl⟩,trivial⟩ ⟨⟨rfl,rfl⟩,trivial⟩⟩;rw[bn hx,List.all_append,hall];simp at g4;simp;omega
   . have:k=71:=by simp at g2;omega
     subst this;exact zm w hz hall _ (aj.keep ⟨⟨rfl,rfl⟩,trivial⟩ ⟨⟨rfl,rfl⟩,trivial⟩)
 . obtain rfl:k=w.hosts.length:=by simp at g1;omega
   exact zm w hz (by rw[List.take_length]at hall;rw[List.take_of_length_le hk2];exact hall) _ (aj.keep ⟨⟨rfl,rfl⟩,trivial⟩ ⟨⟨rfl,rfl⟩,trivial⟩)
theorem MO(w:bX):NQ.Fn cx 12 [.agg (bY w)] (.d (.bool (mS w))) []:=by
 refine df FV bf mixed Tryz.func12 (by kernel_rfl) rfl (ai rfl) ?_
 conv=>whnf
 refine⟨Nat,fun k=>⟨[(1, .ptr 1 0),(3, .d (.int .i64 k))],[(1, .box ((bY w).map .d))]⟩,fun k=>k<=w.zones.length/\k<=21/\(w.zones.take k).all (fun p=>eH p.zone&&decide (p.zone.apex.length<=100))=true,fun k=>w.zones.length-k,
  ⟨0,⟨Nat.zero_le _,Nat.zero_le _,rfl⟩,aj.keep ⟨⟨rfl,rfl⟩,⟨rfl,rfl⟩,trivial⟩ ⟨⟨rfl,rfl⟩,trivial⟩⟩,fun k ⟨hk,hk2,hall⟩=>?_⟩
 conv=>whnf
 have no:∀p,w.zones[k]? =some p->k<21->(eH p.zone&&decide (p.zone.apex.length<=100))=false->mS w=false:=fun p hp hk hb=>by
  have:(w.zones.take 21).all (fun p=>eH p.zone&&decide (p.zone.apex.length<=100))=false:=by
   rw[<- Bool.not_eq_true,aA];intro h;rw[h p (ar (i:=k) (by rw[List.getElem?_take,if_pos hk];exact hp))]at hb;cases hb
  unfold mS;rw[this];simp
 refine ae (fun g1=>?_) (fun g1=>?_) <;> (rw[g1];conv=>whnf)
 . have hlt:k<w.zones.length:=by simpa using g1
   obtain⟨x,hx⟩:∃x,w.zones[k]? =some x:=⟨_,ah hlt⟩
   refine ae (fun g2=>?_) (fun g2=>?_) <;> (rw[g2];conv=>whnf)
   . have hk3:k<21:=by simp at g2;omega
     refine⟨az k,cm x,aT hx,?_⟩
     conv=>whnf
     (refine⟨_,_,N1 x.zone,?_⟩;conv=>whnf)
     refine ae (fun g3=>?_) (fun g3=>?_) <;> (rw[g3];conv=>whnf)
     . refine af rfl ?_;rw[no x hx hk3 (by simp_all)];rfl
     refine⟨az k,cm x,aT hx,?_⟩
     conv=>whnf
     refine ae (fun g4=>?_) (fun g4=>?_) <;> (rw[g4];conv=>whnf)
     . refine af rfl ?_;rw[no x hx hk3 (by simp at g4;simp;omega)];rfl
     . refine⟨k+1,⟨hlt,by omega,?_⟩,by(show w.zones.length-(k+1)<w.zones.length-k;omega),aj.keep ⟨⟨rfl,rfl⟩,⟨aq (by omega),rfl⟩,trivial⟩ ⟨⟨rfl,rfl⟩,trivial⟩⟩;rw[bn hx,List.all_append,hall];simp at g3 g4;simp[g3];omega
   . have:k=21:=by simp at g2;omega
     subst this;exact By w hall _ (aj.keep ⟨⟨rfl,rfl⟩,trivial⟩ ⟨⟨rfl,rfl⟩,trivial⟩)
 . obtain rfl:k=w.zones.length:=by simp at g1;omega
   exact By w (by rw[List.take_length]at hall;rw[List.take_of_length_le hk2];exact hall) _ (aj.keep ⟨⟨rfl,rfl⟩,trivial⟩ ⟨⟨rfl,rfl⟩,trivial⟩)
theorem Dq(zs:List ag)(host:Int)(nm nt:Bs)(hn:nm.length<=60)(hz:∀p∈zs,an p.zone.apex=true)(hl:zs.length<=100000):NQ.Fn cx 149 [.slice 3 (zs.map cm), .int .i64 host, .str nm, .str nt] (.d (.int .i64 (Cq (ov zs host nm nt)))) []:=by
 refine aP bf mixed Tryz.func149 (by kernel_rfl) rfl (ai rfl) ?_;conv=>whnf
 refine⟨Nat×Option (Nat×ag),fun x=>⟨[(0, .d (.slice 3 (zs.map cm))),(1, .d (.int .i64 host)),(2, .d (.str nm)),(3, .d (.str nt)),(9, .d (.int .i64 (Cq x.2))),(10, .d (.int .i64 x.1))],[]⟩,
  fun x=>x.1<=zs.length/\j4 zs x.2/\eP (iu host nm nt) qD x.1 (zs.drop x.1) x.2=ov zs host nm nt,fun x=>zs.length-x.1,
  ⟨(0,none),⟨Nat.zero_le _,(fun x hx=>by cases hx),rfl⟩,aj.keep ⟨⟨rfl,rfl⟩,⟨rfl,rfl⟩,⟨rfl,rfl⟩,⟨rfl,rfl⟩,⟨rfl,rfl⟩,⟨rfl,rfl⟩,trivial⟩ trivial⟩,fun⟨k,b⟩ ⟨hk,hb,hinv⟩=>?_⟩
 dsimp only at hk hb hinv ⊢
 conv=>whnf
 refine ae (fun h1=>?_) (fun h1=>?_) <;> (rw[h1];conv=>whnf)
 . have hlt:k<zs.length:=by simpa using h1
   obtain⟨p,hp⟩:∃p,zs[k]? =some p:=⟨_,ah hlt⟩
   have hpv:=hz p (ar hp);rw[zd hp]at hinv;have skip:iu host nm nt p=false->eP (iu host nm nt) qD (k+1) (zs.drop (k+1)) b=ov zs host nm nt:=fun hf=>by
    rw[<- hinv];unfold b5;rw[if_neg (by rw[hf];simp)]
   refine⟨az k,cm p,aT hp,?_⟩
   conv=>whnf
   have next:∀b',b' =b5 (iu host nm nt) qD k p b->(k+1<=zs.length/\j4 zs b' /\eP (iu host nm nt) qD (k+1) (zs.drop (k+1)) b' =ov zs host nm nt):=fun b' e=>by
    rw[e];exact⟨hlt,hb.step hp,hinv⟩
   repeat' (first
    | (refine ae (fun h=>?_) (fun h=>?_) <;> (rw[h];conv=>whnf))
    | (refine⟨az k,cm p,aT hp,?_⟩;conv=>whnf)
    | (refine⟨_,_,lj nm p.zone.apex hn (bD hpv),?_⟩;conv=>whnf)
    | fail)
   all_goals first
    | (refine⟨(k+1,b),next _ (by unfold b5;rw[if_neg (by unfold iu;simp_all;done)]),by(show zs.length-(k+1)<zs.length-k;omega),aj.keep ⟨⟨rfl,rfl⟩,⟨rfl,rfl⟩,⟨rfl,rfl⟩,⟨rfl,rfl⟩,⟨rfl,rfl⟩,⟨aq (by omega),rfl⟩,trivial⟩ trivial⟩;done)
    | skip
   all_goals
    have hokk:iu host nm nt p=true:=by unfold iu;simp_all
    clear skip;cases b with
    | none =>
     (refine⟨(by kernel_rfl:bF _ _=true),?_⟩;conv=>whnf)
     exact⟨(k+1,some (k,p)),next _ (by unfold b5;rw[if_pos hokk]),by(show zs.length-(k+1)<zs.length-k;omega),aj.keep ⟨⟨rfl,rfl⟩,⟨rfl,rfl⟩,⟨rfl,rfl⟩,⟨rfl,rfl⟩,⟨rfl,rfl⟩,⟨aq (by omega),rfl⟩,trivial⟩ trivial⟩
    | some x =>
     have hx:=hb x rfl;have hxv:=hz x.2 (ar hx)
     (refine⟨(by kernel_rfl:bF _ _=true),?_⟩;conv=>whnf)
     (refine⟨_,_,rh p.zone.apex (by have:=bD hpv;omega),?_⟩;conv=>whnf)
     refine⟨az x.1,cm x.2,aT hx,?_⟩
     conv=>whnf
     (refine⟨_,_,rh x.2.zone.apex (by have:=bD hxv;omega),?_⟩;conv=>whnf)
     refine ae (fun g2=>?_) (fun g2=>?_) <;> (rw[g2];conv=>whnf)
     . exact⟨(k+1,some (k,p)),next _ (by
        unfold b5;rw[if_pos hokk];dsimp only;rw[if_pos (by have:=of_decide_eq_true g2;rw[ao,ao]at this;exact decide_eq_true this)]),by(show zs.length-(k+1)<zs.length-k;omega),aj.keep ⟨⟨rfl,rfl⟩,⟨rfl,rfl⟩,⟨rfl,rfl⟩,⟨rfl,rfl⟩,⟨rfl,rfl⟩,⟨aq (by omega),rfl⟩,trivial⟩ trivial⟩
     . exact⟨(k+1,some x),next _ (by
        unfold b5;rw[if_pos hokk];dsimp only;rw[if_neg (by have:=of_decide_eq_false g2;rw[ao,ao]at this;intro h;exact this (of_decide_eq_true h))]),by(show zs.length-(k+1)<zs.length-k;omega),aj.keep ⟨⟨rfl,rfl⟩,⟨rfl,rfl⟩,⟨rfl,rfl⟩,⟨rfl,rfl⟩,⟨rfl,rfl⟩,⟨aq (by omega),rfl⟩,trivial⟩ trivial⟩
 . obtain rfl:k=zs.length:=by simp at h1;omega
   refine af rfl ?_;rw[<- hinv,List.drop_length];rfl
end Go.Proofs.YtjapjahfllomkaaGreatDoor
namespace NP
open NQ Go
end NP
namespace Go.Proofs.YtjapjahfllomkaaGreatDoor
open NQ Go NP Go.RowKit
theorem E0(z:aS)(q:bg)(hf:eH z=true):NQ.Fn cx 78 [.agg (bq z), .agg (cU q)] (.tuple [.agg ((dq (bH z q).1).map .d), .d (.int .i64 (bH z q).2)]) []:=Nt hf q ▸ Gv z q hf
end Go.Proofs.YtjapjahfllomkaaGreatDoor
namespace NP
open NQ Go
theorem DR{p q:ag}(hp:bE p.zone=true)(hq:bE q.zone=true):du p q=(decide (jl p.zone>jl q.zone)||(decide (jl p.zone=jl q.zone)&&decide (p.host<q.host))):=by
 unfold du fb;rw[hp,hq];rfl
theorem CM(zs : List ag)(q : bg)(f : Nat)(a : Bs) : l9 zs (dw zs) q (f + 1) a = match bU zs a with
  | none=>(lJ,false)
  | some x=>if ((bH x.2.zone q).1.kind != 4)=true then((bH x.2.zone q).1,true)else l9 zs (dw zs) q f (bH x.2.zone q).1.cut:=by
 rw[l9,pW];cases h:bU zs a with
 | none=>rfl
 | some x =>
  simp only[Option.map_some];rw[rr zs a x h]
end NP
namespace Go.Proofs.YtjapjahfllomkaaGreatDoor
open NQ Go NP Go.RowKit
theorem vW(zs:List ag)(a:Bs)(hz:∀p∈zs,bE p.zone=true)(hl:zs.length<=100000):NQ.Fn cx 21 [.slice 3 (zs.map cm), .str a] (.d (.int .i64 (Cq (bU zs a)))) []:=by
 refine aP bf mixed Tryz.func21 (by kernel_rfl) rfl (ai rfl) ?_;conv=>whnf
 refine⟨Nat×Option (Nat×ag),fun x=>⟨[(0, .d (.slice 3 (zs.map cm))),(1, .d (.str a)),(5, .d (.int .i64 (Cq x.2))),(6, .d (.int .i64 x.1))],[]⟩,
  fun x=>x.1<=zs.length/\j4 zs x.2/\eP (fun p=>p.zone.apex==a) du x.1 (zs.drop x.1) x.2=bU zs a,fun x=>zs.length-x.1,
  ⟨(0,none),⟨Nat.zero_le _,(fun x hx=>by cases hx),rfl⟩,aj.keep ⟨⟨rfl,rfl⟩,⟨rfl,rfl⟩,⟨rfl,rfl⟩,⟨rfl,rfl⟩,trivial⟩ trivial⟩,fun⟨k,b⟩ ⟨hk,hb,hinv⟩=>?_⟩
 dsimp only at hk hb hinv ⊢
 conv=>whnf
 refine ae (fun h1=>?_) (fun h1=>?_) <;> (rw[h1];conv=>whnf)
 . have hlt:k<zs.length:=by simpa using h1
   obtain⟨p,hp⟩:∃p,zs[k]? =some p:=⟨_,ah hlt⟩
   have hpv:=hz p (ar hp);rw[zd hp]at hinv;have next:∀b',b' =b5 (fun p=>p.zone.apex==a) du k p b->(k+1<=zs.length/\j4 zs b' /\eP (fun p=>p.zone.apex==a) du (k+1) (zs.drop (k+1)) b' =bU zs a):=fun b' e=>by
    rw[e];exact⟨hlt,hb.step hp,hinv⟩
   refine⟨az k,cm p,aT hp,?_⟩
   conv=>whnf
   refine ae (fun h2=>?_) (fun h2=>?_) <;> (rw[h2];conv=>whnf)
   . exact⟨(k+1,b),next _ (by unfold b5;rw[if_neg (by simpa using h2)]),by(show zs.length-(k+1)<zs.length-k;omega),aj.keep ⟨⟨rfl,rfl⟩,⟨rfl,rfl⟩,⟨rfl,rfl⟩,⟨aq (by omega),rfl⟩,trivial⟩ trivial⟩
   have ha:(p.zone.apex==a)=true:=by simpa using h2
   cases b with
   | none =>
    conv=>whnf
    exact⟨(k+1,some (k,p)),next _ (by unfold b5;rw[if_pos ha]),by(show zs.length-(k+1)<zs.length-k;omega),aj.keep ⟨⟨rfl,rfl⟩,⟨rfl,rfl⟩,⟨rfl,rfl⟩,⟨aq (by omega),rfl⟩,trivial⟩ trivial⟩
   | some x =>
    have hx:=hb x rfl;have hxv:=hz x.2 (ar hx);have hnew:=DR hpv hxv
    conv=>whnf
    refine⟨az k,cm p,aT hp,?_⟩
    conv=>whnf
    (refine⟨_,_,vC p.zone hpv,?_⟩;conv=>whnf)
    refine⟨az x.1,cm x.2,aT hx,?_⟩
    conv=>whnf
    (refine⟨_,_,vC x.2.zone hxv,?_⟩;conv=>whnf)
    (refine⟨(by kernel_rfl:bF _ _=true),?_⟩;conv=>whnf)
    repeat' (first
     | (refine ae (fun h=>?_) (fun h=>?_) <;> (rw[h];conv=>whnf))
     | (refine⟨az k,cm p,aT hp,?_⟩;conv=>whnf)
     | (refine⟨az x.1,cm x.2,aT hx,?_⟩;conv=>whnf)
     | fail)
    all_goals first
     | (refine⟨(k+1,some (k,p)),next _ (by unfold b5;rw[if_pos ha];dsimp only;rw[if_pos (by rw[hnew];simp_all;done)]),by(show zs.length-(k+1)<zs.length-k;omega),aj.keep ⟨⟨rfl,rfl⟩,⟨rfl,rfl⟩,⟨rfl,rfl⟩,⟨aq (by omega),rfl⟩,trivial⟩ trivial⟩;done)
     | (refine⟨(k+1,some x),next _ (by unfold b5;rw[if_pos ha];dsimp only;rw[if_neg (by rw[hnew];simp_all;done)]),by(show zs.length-(k+1)<zs.length-k;omega),aj.keep ⟨⟨rfl,rfl⟩,⟨rfl,rfl⟩,⟨rfl,rfl⟩,⟨aq (by omega),rfl⟩,trivial⟩ trivial⟩;done)
     | (refine⟨(k+1,some x),next _ (by unfold b5;rw[if_pos ha];dsimp only;rw[if_neg (by rw[hnew];simp_all;omega)]),by(show zs.length-(k+1)<zs.length-k;omega),aj.keep ⟨⟨rfl,rfl⟩,⟨rfl,rfl⟩,⟨rfl,rfl⟩,⟨aq (by omega),rfl⟩,trivial⟩ trivial⟩;done)
 . obtain rfl:k=zs.length:=by simp at h1;omega
   refine af rfl ?_;rw[<- hinv,List.drop_length];rfl
theorem pX(w:bX)(hF:k7 w):NQ.Fn cx 43 [.agg (bY w)] (.d (.bool (cO w))) []:=JF w (by have:=hF.hosts;omega) (by have:=hF.zones;omega) (by have:=hF.hints;omega)
theorem GS(w:bX)(hF:k7 w):NQ.Fn cx 59 [.agg (bY w)] (.d (.bool (cO w))) []:=Jz w (by have:=hF.hosts;omega) (by have:=hF.zones;omega) (by have:=hF.hints;omega) (fun p hp=>by have:=(dG (hF.few p hp)).1;omega)
end Go.Proofs.YtjapjahfllomkaaGreatDoor
namespace NP
open NQ Go
theorem AB{s a b:Bs}(ha:aM s a=true)(hb:aM s b=true)(h:xK a<=xK b):aM b a=true:=by
 rw[dM]at ha hb ⊢;refine List.prefix_of_prefix_length_le ha hb ?_;unfold xK at h;rw[back_eq,back_eq,List.length_reverse,List.length_reverse];omega
theorem rA{s:Bs}{p:ag}(hp:an p.zone.apex=true):iu (-1) s [] p=aM s p.zone.apex:=by
 unfold iu;have:(p.zone.apex==[])=false:=by simpa using CP hp
 rw[this];simp
end NP
namespace Go.Proofs.YtjapjahfllomkaaGreatDoor
open NQ Go NP Go.RowKit
end Go.Proofs.YtjapjahfllomkaaGreatDoor
namespace NP
open NQ Go
theorem ze{ok:ag->Bool}{better:ag->ag->Bool}(hirr:∀p,better p p=false)(htr:∀p q r,better p q=true->better q r=true->better p r=true):∀(l:List ag) (i:Nat) (b:Option (Nat×ag)) (x:Nat×ag),eP ok better i l b=some x ->
 (b=some x\/(x.2∈l/\ok x.2=true))/\(∀e,(∀y,b=some y->better e y.2=false)->b ≠ none->better e x.2=false)/\ ∀p∈l,ok p=true->better p x.2=false
 | [],i,b,x,h=>by cases h;exact⟨.inl rfl,fun e he _=>he x rfl,fun p hp=>by cases hp⟩
 | p::t,i,b,x,h=>by
  have h' :eP ok better (i+1) t (b5 ok better i p b)=some x:=h;obtain⟨h1,h2,h3⟩:=ze hirr htr t (i+1) _ x h';by_cases hp:ok p=true
  . cases b with
    | none =>
     have e0:b5 ok better i p none=some (i,p):=by unfold b5;rw[if_pos hp]
     rw[e0]at h1 h2;refine⟨.inr ?_,fun e he hb=>absurd rfl hb,fun q hq hoq=>?_⟩
     . rcases h1 with h1 | h1
       . cases h1;exact⟨List.mem_cons_self .., hp⟩
       . exact⟨aW _ h1.1,h1.2⟩
     . rcases List.mem_cons.1 hq with rfl | hq
       . exact h2 q (fun y hy=>by cases hy;exact hirr q) (by simp)
       . exact h3 q hq hoq
    | some y =>
     by_cases hbt:better p y.2=true
     . have e0:b5 ok better i p (some y)=some (i,p):=by unfold b5;rw[if_pos hp];dsimp only;rw[if_pos hbt]
       rw[e0]at h1 h2;refine⟨.inr ?_,fun e he _=>?_,fun q hq hoq=>?_⟩
       . rcases h1 with h1 | h1
         . cases h1;exact⟨List.mem_cons_self .., hp⟩
         . exact⟨aW _ h1.1,h1.2⟩
       . refine h2 e (fun z hz=>?_) (by simp);cases hz;cases hc:better e p with
         | false=>rfl
         | true =>
          have:=htr e p y.2 hc hbt;rw[he y rfl]at this;cases this
       . rcases List.mem_cons.1 hq with rfl | hq
         . exact h2 q (fun z hz=>by cases hz;exact hirr q) (by simp)
         . exact h3 q hq hoq
     . have e0:b5 ok better i p (some y)=some y:=by unfold b5;rw[if_pos hp];dsimp only;rw[if_neg hbt]
       rw[e0]at h1 h2;refine⟨h1.imp id fun h1=>⟨aW _ h1.1,h1.2⟩,fun e he hb=>h2 e he hb,fun q hq hoq=>?_⟩;rcases List.mem_cons.1 hq with rfl | hq
       . exact h2 q (fun z hz=>by cases hz;simpa using hbt) (by simp)
       . exact h3 q hq hoq
  . have e0:b5 ok better i p b=b:=by unfold b5;rw[if_neg hp]
    rw[e0]at h1 h2;refine⟨h1.imp id fun h1=>⟨aW _ h1.1,h1.2⟩,h2,fun q hq hoq=>?_⟩;rcases List.mem_cons.1 hq with rfl | hq
    . exact absurd hoq hp
    . exact h3 q hq hoq
theorem zI(p q:ag):du p q=true ↔ (fb q.zone).1<(fb p.zone).1\/((fb p.zone).1=(fb q.zone).1/\p.host<q.host):=by
 unfold du;simp
theorem IQ(p:ag):du p p=false:=by
 rw[<- Bool.not_eq_true,zI];omega
theorem Lb(p q r:ag)(h:du p q=true)(k:du q r=true):du p r=true:=by
 rw[zI]at h k ⊢;omega
theorem Bp{zs:List ag}{a:Bs}{x:Nat×ag}(h:bU zs a=some x):x.2∈zs/\x.2.zone.apex=a/\ ∀p∈zs,p.zone.apex=a->du p x.2=false:=by
 obtain⟨h1,_,h3⟩:=ze IQ Lb zs 0 none x h;rcases h1 with h1 | h1
 . cases h1
 . exact⟨h1.1,by simpa using h1.2,fun p hp ha=>h3 p hp (by simpa using ha)⟩
theorem Hu{zs:List ag}{a:Bs}:bU zs a=none ↔ ∀p∈zs,p.zone.apex ≠ a:=by
 unfold bU;rw[pz];simp
end NP
