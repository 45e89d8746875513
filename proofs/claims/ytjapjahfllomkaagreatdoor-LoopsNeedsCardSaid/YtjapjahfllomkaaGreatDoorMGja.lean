/-
  Texts of the proof, merged in build order.
-/
import Derived.Test.YtjapjahfllomkaaGreatDoorAbM
import Derived.Test.YtjapjahfllomkaaGreatDoorMGa
import Derived.Test.YtjapjahfllomkaaGreatDoorQsoM
import Derived.Test.YtjapjahfllomkaaGreatDoorSortM
import Derived.Test.YtjapjahfllomkaaGreatDoorMLrc
import Derived.Test.YtjapjahfllomkaaGreatDoorMCa
import Derived.Test.YtjapjahfllomkaaGreatDoorMVa
set_option linter.all false
set_option maxRecDepth 100000
namespace NP
open NQ Go
theorem BA(s:Bs):0<=fk s/\fk s<=8:=by
 unfold fk dy;split
 . rename_i h;have:=uz h;dsimp only;omega
 . simp
end NP
namespace Go.Proofs.YtjapjahfllomkaaGreatDoor
open NQ Go NP Go.RowKit
end Go.Proofs.YtjapjahfllomkaaGreatDoor
namespace NP
open NQ Go
def fR(ok:ag->Bool)(better:ag->ag->Bool):Nat->List ag->Option (Nat×ag)->Option (Nat×ag)
 | _,[],b=>b
 | i,p::t,b=>fR ok better (i+1) t (if ok p=true then(match b with | none=>some (i,p) | some x=>if better p x.2=true then some (i,p)else b)else b)
def Lf:Option (Nat×ag)->Int
 | none=> -1
 | some x=>(x.1:Int)
def ck(ok:ag->Bool)(better:ag->ag->Bool)(i:Nat)(p:ag)(b:Option (Nat×ag)):Option (Nat×ag):=if ok p=true then(match b with | none=>some (i,p) | some x=>if better p x.2=true then some (i,p)else b)else b
theorem Hg{ok:ag->Bool}{better:ag->ag->Bool}{l:List ag}{k:Nat}{p:ag}(h:l[k]? =some p)(b:Option (Nat×ag)):fR ok better k (l.drop k) b=fR ok better (k+1) (l.drop (k+1)) (ck ok better k p b):=by
 rw[drop_cons h];rfl
def lS(zs:List ag)(b:Option (Nat×ag)):Prop:= ∀x,b=some x->zs[x.1]? =some x.2
theorem lS.step{zs:List ag}{b:Option (Nat×ag)}(h:lS zs b){ok:ag->Bool}{better:ag->ag->Bool}{i:Nat}{p:ag}(hp:zs[i]? =some p):lS zs (ck ok better i p b):=by
 intro x hx;unfold ck at hx;split at hx
 . split at hx
   . cases hx;exact hp
   . split at hx
     . cases hx;exact hp
     . exact h x hx
 . exact h x hx
theorem Ep{zs:List ag}{ok:ag->Bool}{better:ag->ag->Bool}:∀(l:List ag) (i:Nat) (b:Option (Nat×ag)),(∀j,l[j]? =zs[i+j]?)->lS zs b->lS zs (fR ok better i l b)
 | [],i,b,_,h=>h
 | p::t,i,b,hl,h=>Ep t (i+1) _ (fun j=>by have:=hl (j+1);simp at this;rw[this];congr 1;omega) (h.step (by have:=hl 0;simpa using this.symm))
theorem pq{ok:ag->Bool}{better:ag->ag->Bool}:∀(l:List ag) (i:Nat) (b:Option (Nat×ag)),fR ok better i l b=none ↔ (b=none/\ ∀p∈l,ok p=false)
 | [],i,b=>by simp[fR]
 | p::t,i,b=>by
  show fR ok better (i+1) t (ck ok better i p b)=none ↔ _
  rw[pq t];unfold ck;cases hp:ok p <;> cases b <;> simp[hp];intro h;split at h <;> cases h
theorem Bc{ok:ag->Bool}{key:ag->Int}:∀(l:List ag) (i:Nat) (b:Option (Nat×ag)) (x:Nat×ag),fR ok (fun p q=>decide (key q<key p)) i l b=some x ->
 (b=some x\/(x.2∈l/\ok x.2=true))/\(∀y,b=some y->key y.2<=key x.2)/\ ∀p∈l,ok p=true->key p<=key x.2
 | [],i,b,x,h=>by cases h;exact⟨.inl rfl,fun y hy=>by cases hy;exact Int.le_refl _,fun p hp=>by cases hp⟩
 | p::t,i,b,x,h=>by
  obtain⟨h1,h2,h3⟩:=Bc t (i+1) (ck ok (fun p q=>decide (key q<key p)) i p b) x h;unfold ck at h1 h2;by_cases hp:ok p=true
  . rw[if_pos hp]at h1 h2;cases b with
    | none =>
     refine⟨.inr ?_,fun y hy=>(by cases hy),fun q hq hoq=>?_⟩
     . rcases h1 with h1 | h1
       . cases h1;exact⟨List.mem_cons_self .., hp⟩
       . exact⟨aW _ h1.1,h1.2⟩
     . rcases List.mem_cons.1 hq with rfl | hq
       . exact h2 (i,q) rfl
       . exact h3 q hq hoq
    | some y =>
     dsimp only at h1 h2;by_cases hb:key y.2<key p
     . rw[if_pos (decide_eq_true hb)]at h1 h2;have hpx:=h2 (i,p) rfl;refine⟨.inr ?_,fun z hz=>by cases hz;dsimp only at hpx;omega,fun q hq hoq=>?_⟩
       . rcases h1 with h1 | h1
         . cases h1;exact⟨List.mem_cons_self .., hp⟩
         . exact⟨aW _ h1.1,h1.2⟩
       . rcases List.mem_cons.1 hq with rfl | hq
         . exact hpx
         . exact h3 q hq hoq
     . rw[if_neg (by simpa using hb)]at h1 h2;have hyx:=h2 y rfl;refine⟨?_,fun z hz=>h2 z hz,fun q hq hoq=>?_⟩
       . rcases h1 with h1 | h1
         . exact .inl h1
         . exact .inr ⟨aW _ h1.1,h1.2⟩
       . rcases List.mem_cons.1 hq with rfl | hq
         . omega
         . exact h3 q hq hoq
  . rw[if_neg hp]at h1 h2;refine⟨?_,h2,fun q hq hoq=>?_⟩
    . rcases h1 with h1 | h1
      . exact .inl h1
      . exact .inr ⟨aW _ h1.1,h1.2⟩
    . rcases List.mem_cons.1 hq with rfl | hq
      . exact absurd hoq hp
      . exact h3 q hq hoq
def qL(s:Bs):Int:=((bd s).length:Int)
theorem u6{s:Bs}(h:aj s=true):fk s=qL s:=by unfold fk qL dy;rw[if_pos h]
theorem LP{s a:Bs}(hs:aj s=true)(ha:aj a=true):(bx s a).1=aG s a:=by unfold bx;rw[if_pos ⟨hs,ha⟩]
theorem CU{s:Bs}(h:aj s=true):s ≠ []:=by rintro rfl;revert h;decide
def lZ(host:Int)(nm nt:Bs)(p:ag):Bool:= !((decide (host>=0)&&(p.host != host))||(p.zone.apex==nt)|| !aG nm p.zone.apex)
def yB(p:ag):Int:=qL p.zone.apex
def sM(p q:ag):Bool:=decide (yB q<yB p)
def py(zs:List ag)(host:Int)(nm nt:Bs):Option (Nat×ag):=fR (lZ host nm nt) sM 0 zs none
def toH:Option (Nat×ag)->Bs×Int
 | none=>([], -1)
 | some x=>(x.2.zone.apex,fk x.2.zone.apex)
theorem zn{s:Bs}(hs:aj s=true):∀(l:List ag) (i:Nat) (b:Option (Nat×ag)),(∀p∈l,aj p.zone.apex=true)->(∀x,b=some x->aj x.2.zone.apex=true)->fT s l (toH b)=toH (fR (lZ (-1) s []) sM i l b)
 | [],i,b,_,_=>rfl
 | p::t,i,b,hl,hb=>by
  have hp:=hl p (List.mem_cons_self ..);have e:(if (bx s p.zone.apex).1=true/\(toH b).2<fk p.zone.apex then(p.zone.apex,fk p.zone.apex)else toH b)=toH (ck (lZ (-1) s []) sM i p b):=by
   have hok:lZ (-1) s [] p=aG s p.zone.apex:=by
    unfold lZ;have:(p.zone.apex==[])=false:=by simpa using CU hp
    rw[this];simp
   unfold ck;rw[hok,LP hs hp];have h0:0<=fk p.zone.apex:=(BA _).1;cases hu:aG s p.zone.apex with
   | false=>simp
   | true =>
    cases b with
    | none=>simp only[toH,true_and,if_true];rw[if_pos (by omega)]
    | some x =>
     have ed:sM p x.2=decide (fk x.2.zone.apex<fk p.zone.apex):=by
      unfold sM yB;rw[u6 hp,u6 (hb x rfl)]
     simp only[toH,true_and,if_true,ed,decide_eq_true_eq];split <;> rfl
  refine(congrArg (fT s t) e).trans ?_;refine zn hs t (i+1) _ (fun q hq=>hl q (aW _ hq)) fun x hx=>?_
  unfold ck at hx;split at hx
  . split at hx
    . cases hx;exact hp
    . split at hx
      . cases hx;exact hp
      . exact hb x hx
  . exact hb x hx
theorem Io{s:Bs}(hs:aj s=true){zs:List ag}(hz:∀p∈zs,aj p.zone.apex=true):fT s zs ([], -1)=toH (py zs (-1) s []):=zn hs zs 0 none hz (fun x hx=>by cases hx)
def bX(zs:List ag)(a:Bs):Option (Nat×ag):=fR (fun p=>p.zone.apex==a) du 0 zs none
theorem z6{zs:List ag}{a:Bs}:∀(l:List ag) (i:Nat) (m:List (Bs×Nat)) (b:Option (Nat×ag)),(∀j,l[j]? =zs[i+j]?)->lS zs b->eu a m=b.map (·.1)->eu a (iz zs i l m)=(fR (fun p=>p.zone.apex==a) du i l b).map (·.1)
 | [],i,m,b,_,_,h=>h
 | p::t,i,m,b,hl,hb,h=>by
  have hp:zs[i]? =some p:=by have:=hl 0;simpa using this.symm
  show eu a (iz zs (i+1) t (if gn zs m p=true then fC p.zone.apex i m else m))=(fR (fun p=>p.zone.apex==a) du (i+1) t (ck (fun p=>p.zone.apex==a) du i p b)).map (·.1)
  refine z6 t (i+1) _ _ (fun j=>by have:=hl (j+1);simp at this;rw[this];congr 1;omega) (hb.step hp) ?_;by_cases ha:p.zone.apex=a
  . have hb' :∀b,ck (fun p=>p.zone.apex==a) du i p b=(match b with | none=>some (i,p) | some x=>if du p x.2=true then some (i,p)else b):=fun b=>by
     unfold ck;exact if_pos (by show(p.zone.apex==a)=true;rw[ha];exact beq_self_eq_true a)
    rw[hb'];cases b with
    | none =>
     have ht:gn zs m p=true:=by unfold gn;rw[ha,h];rfl
     rw[if_pos ht,nP,if_pos ha];rfl
    | some x =>
     have hx:=hb x rfl;have ht:gn zs m p=du p x.2:=by unfold gn;rw[ha,h];simp only[Option.map_some];rw[hx]
     dsimp only;rw[ht];split
     . rw[nP,if_pos ha];rfl
     . exact h
  . have hb' :ck (fun p=>p.zone.apex==a) du i p b=b:=by unfold ck;exact if_neg (by simpa using ha)
    rw[hb'];split
    . rw[nP,if_neg ha];exact h
    . exact h
theorem pS(zs:List ag)(a:Bs):eu a (dx zs)=(bX zs a).map (·.1):=z6 zs 0 [] none (fun j=>by rw[Nat.zero_add]) (fun x hx=>by cases hx) rfl
theorem v7(zs:List ag)(a:Bs):lS zs (bX zs a):=Ep zs 0 none (fun j=>by rw[Nat.zero_add]) (fun x hx=>by cases hx)
theorem Kn{zs:List ag}{K:Int}{nm nt:Bs}{x:Nat×ag}(h:py zs K nm nt=some x):x.2∈zs/\lZ K nm nt x.2=true/\ ∀p∈zs,lZ K nm nt p=true->yB p<=yB x.2:=by
 obtain⟨h1,_,h3⟩:=Bc zs 0 none x h;rcases h1 with h1 | h1
 . cases h1
 . exact⟨h1.1,h1.2,h3⟩
def gT(l:List ag):List Bs:=l.foldl (fun out p=>if out.contains p.zone.apex=true then out else out++[p.zone.apex]) []
theorem uT(l:List ag)(p:ag):gT (l++[p])=if (gT l).contains p.zone.apex=true then gT l else gT l++[p.zone.apex]:=by unfold gT;rw[List.foldl_append];rfl
theorem Fl(l:List ag):(gT l).length<=l.length:=by
 have key:∀(l:List ag) (out:List Bs),(l.foldl (fun out p=>if out.contains p.zone.apex=true then out else out++[p.zone.apex]) out).length<=out.length+l.length:=fun l=>by
  induction l with
  | nil=>intro out;simp
  | cons p t ih =>
   intro out;refine Nat.le_trans (ih _) ?_;dsimp only;split <;> simp <;> omega
 have:=key l [];rw[List.length_nil,Nat.zero_add]at this;exact this
theorem xY(a:Bs)(v:D):∀m:List (Bs×D),(cH a v m).map (·.1)=if (m.map (·.1)).contains a=true then m.map (·.1)else m.map (·.1)++[a]
 | []=>by simp[cH]
 | (b,x)::t=>by
  show(if a=b then _ else _::cH a v t).map (·.1)=_
  by_cases h:a=b
  . subst h;simp
  . rw[if_neg h];simp only[List.map_cons,List.contains_cons];rw[xY a v t];have:(a==b)=false:=by simpa using h
    rw[this,az];split <;> simp
theorem JR(l:List ag):(apx l).map (·.1)=gT l:=by
 have key:∀(l:List ag) (m:List (Bs×D)),(l.foldl (fun m p=>cH p.zone.apex (.bool true) m) m).map (·.1)=l.foldl (fun out p=>if out.contains p.zone.apex=true then out else out++[p.zone.apex]) (m.map (·.1)):=fun l=>by
  induction l with
  | nil=>intro m;rfl
  | cons p t ih=>intro m;simp only[List.foldl_cons];rw[ih,xY]
 exact key l []
theorem Mw(l:List ag):(apx l).length=(gT l).length:=by rw[<- JR,ao]
def mL(w:bJ):Bool:=(w.zones.take 21).all (fun p=>eI p.zone&&decide (p.zone.apex.length<=100))&&(w.hosts.take 71).all (fun h=>decide (h.name.length<=100))&&decide ((w.zones.length:Int)<=20)&&decide ((w.hosts.length:Int)<=70)&&decide ((w.hints.length:Int)<=20)&&decide ((w.anchor.data.length:Int)<=20)
theorem Kw{w:bJ}(h:mL w=true):kR w/\w.hosts.length<=70/\w.zones.length<=20/\w.hints.length<=20:=by
 unfold mL at h;simp only[aP,decide_eq_true_eq,ax]at h;obtain⟨⟨⟨⟨⟨h1,h2⟩,h3⟩,h4⟩,h5⟩,h6⟩:=h;have:w.zones.take 21=w.zones:=List.take_of_length_le (by omega);rw[this]at h1;exact⟨⟨by omega,by omega,by omega,fun p hp=>(h1 p hp).1⟩,by omega,by omega,by omega⟩
end NP
namespace Go.Proofs.YtjapjahfllomkaaGreatDoor
open NQ Go NP Go.RowKit
theorem Ip(l:List pn)(hl:l.length<=100000):NQ.Fn cx 113 [.slice 3 (l.map kC)] (.d (.bool (kZ l))) []:=by
 refine aO bf mixed Tryz.func113 (by kernel_rfl) rfl (ah rfl) ?_;conv=>whnf
 rw[ao];refine ae (fun h=>?_) (fun h=>?_) <;> (rw[h];conv=>whnf)
 . refine af rfl ?_;show AV.d (D.bool _)=AV.d (D.bool _)
   congr 2
   unfold kZ;simp at h;simp;omega
 have hle:kZ l=jH [] l:=by unfold kZ;simp at h;simp;omega
 rw[hle];refine⟨Nat,fun k=>⟨[(0, .d (.slice 3 (l.map kC))),(3, .d (.int .i64 k))],[]⟩,fun k=>k<=l.length/\jH ((l.take k).map (·.addr)) (l.drop k)=jH [] l,fun k=>l.length-k,
  ⟨0,⟨Nat.zero_le _,rfl⟩,an.keep ⟨⟨rfl,rfl⟩,⟨rfl,rfl⟩,trivial⟩ trivial⟩,fun k ⟨hk,hinv⟩=>?_⟩
 conv=>whnf
 refine ae (fun h1=>?_) (fun h1=>?_) <;> (rw[h1];conv=>whnf)
 . have hlt:k<l.length:=by simpa using h1
   obtain⟨x,hx⟩:∃x,l[k]? =some x:=⟨_,ai hlt⟩
   rw[xt hx]at hinv;refine⟨aH k,kC x,aU hx,?_⟩
   conv=>whnf
   (refine⟨_,_,nw x.name,?_⟩;conv=>whnf)
   cases hv:aj x.name with
   | false =>
    conv=>whnf
    refine af rfl ?_;rw[<- hinv,hv];rfl
   | true =>
    conv=>whnf
    (refine⟨_,_,AS x.name hv,?_⟩;conv=>whnf)
    rw[hv,L3 hv]at hinv
    repeat' (first | (refine ae (fun h=>?_) (fun h=>?_) <;> (rw[h];conv=>whnf)) | fail)
    all_goals first
     | (refine af rfl ?_;show AV.d (D.bool false)=AV.d (D.bool _);rw[<- hinv];clear hinv hle;unfold fE;simp_all;done)
     | skip
    all_goals first
     | (refine af rfl ?_;show AV.d (D.bool false)=AV.d (D.bool _);rw[<- hinv];clear hinv hle;unfold fE;simp_all;omega)
     | skip
    refine⟨Nat,fun j=>⟨[(0, .d (.slice 3 (l.map kC))),(3, .d (.int .i64 k)),(4, .ptr 4 0),(6, .d (.int .i64 j))],[(4, .box ((kC x).map .d))]⟩,fun j=>j<=k/\((l.take j).map (·.addr)).contains x.addr=false,fun j=>k-j,
     ⟨0,⟨Nat.zero_le _,rfl⟩,an.keep ⟨⟨rfl,rfl⟩,⟨rfl,rfl⟩,⟨rfl,rfl⟩,⟨rfl,rfl⟩,trivial⟩ ⟨⟨rfl,rfl⟩,trivial⟩⟩,fun j ⟨hj,hno⟩=>?_⟩
    conv=>whnf
    refine ae (fun h2=>?_) (fun h2=>?_) <;> (rw[h2];conv=>whnf)
    . have hjk:j<k:=by simpa using h2
      obtain⟨y,hy⟩:∃y,l[j]? =some y:=⟨_,ai (by omega)⟩
      try (refine⟨(by kernel_rfl:bH _ _=true),?_⟩;conv=>whnf)
      refine⟨aH j,kC y,aU hy,?_⟩
      conv=>whnf
      refine ae (fun h3=>?_) (fun h3=>?_) <;> (rw[h3];conv=>whnf)
      . refine af rfl ?_;show AV.d (D.bool false)=AV.d (D.bool _)
        have:((l.take k).map (·.addr)).contains x.addr=true:=by
         rw[c8,List.mem_map];exact⟨y,aq (i:=j) (by rw[List.getElem?_take,if_pos hjk];exact hy),by simpa using h3⟩
        rw[<- hinv,this];simp
      . refine⟨j+1,⟨hjk,?_⟩,by(show k-(j+1)<k-j;omega),an.keep ⟨⟨rfl,rfl⟩,⟨rfl,rfl⟩,⟨rfl,rfl⟩,⟨au (by omega),rfl⟩,trivial⟩ ⟨⟨rfl,rfl⟩,trivial⟩⟩;rw[bt hy,List.map_append];have h3' :(x.addr==y.addr)=false:=by
         rw[<- Bool.not_eq_true]at h3 ⊢;intro e;apply h3;simp at e ⊢;exact e.symm
        simp only[List.map_cons,List.map_nil];rw[Bool.eq_false_iff]at hno h3' ⊢;simp only[ne_eq,c8,List.mem_append,List.mem_singleton,beq_iff_eq]at hno h3' ⊢;rintro(e | e)
        . exact hno e
        . exact h3' e
    . obtain rfl:j=k:=by simp at h2;omega
      refine⟨j+1,⟨hlt,?_⟩,by(show l.length-(j+1)<l.length-j;omega),an.keep ⟨⟨rfl,rfl⟩,⟨au (by omega),rfl⟩,trivial⟩ trivial⟩;rw[bt hx,List.map_append, <- hinv,hno];clear hinv hle;show _=(_&&_&&_)
      unfold fE
      simp_all
      try omega
 . obtain rfl:k=l.length:=by simp at h1;omega
   refine af rfl ?_;rw[<- hinv,List.drop_length];rfl
theorem I3(s:fZ)(hints:List Int)(hl:hints.length<=100000):NQ.Fn cx 114 [.agg (jQ s), .slice 1 (hints.map dq)] (.d (.bool (ni s hints))) []:=by
 refine aO bf mixed Tryz.func114 (by kernel_rfl) rfl (ah rfl) ?_;conv=>whnf
 refine⟨Nat,fun k=>⟨[(1, .d (.slice 1 (hints.map dq))),(2, .ptr 2 0),(5, .d (.int .i64 k))],[(2, .box ((jQ s).map .d))]⟩,fun k=>k<=hints.length/\(hints.take k).all fE=true,fun k=>hints.length-k,
  ⟨0,⟨Nat.zero_le _,rfl⟩,an.keep ⟨⟨rfl,rfl⟩,⟨rfl,rfl⟩,⟨rfl,rfl⟩,trivial⟩ ⟨⟨rfl,rfl⟩,trivial⟩⟩,fun k ⟨hk,hall⟩=>?_⟩
 conv=>whnf
 refine ae (fun h1=>?_) (fun h1=>?_) <;> (rw[h1];conv=>whnf)
 . have hlt:k<hints.length:=by simpa using h1
   obtain⟨x,hx⟩:∃x,hints[k]? =some x:=⟨_,ai hlt⟩
   refine⟨aH k,dq x,aU hx,?_⟩
   conv=>whnf
   have no:fE x=false->ni s hints=false:=fun hb=>by
    have:hints.all fE=false:=by
     rw[<- Bool.not_eq_true,ax];intro hh;rw[hh x (aq hx)]at hb;cases hb
    unfold ni;rw[this];simp
   refine ae (fun h2=>?_) (fun h2=>?_) <;> (rw[h2];conv=>whnf)
   . refine af rfl ?_;rw[no (by unfold fE;simp at h2 ⊢;omega)];rfl
   . refine⟨aH k,dq x,aU hx,?_⟩
     conv=>whnf
     refine ae (fun h3=>?_) (fun h3=>?_) <;> (rw[h3];conv=>whnf)
     . refine af rfl ?_;rw[no (by unfold fE;simp at h2 h3 ⊢;omega)];rfl
     . refine⟨k+1,⟨hlt,?_⟩,by(show hints.length-(k+1)<hints.length-k;omega),an.keep ⟨⟨rfl,rfl⟩,⟨rfl,rfl⟩,⟨au (by omega),rfl⟩,trivial⟩ ⟨⟨rfl,rfl⟩,trivial⟩⟩;rw[bt hx,List.all_append,hall];simp at h2 h3;simp[fE];omega
 . obtain rfl:k=hints.length:=by simp at h1;omega
   rw[List.take_length]at hall
   (refine⟨_,_,CG s,?_⟩;conv=>whnf)
   repeat' (first | (refine ae (fun h=>?_) (fun h=>?_) <;> (rw[h];conv=>whnf)) | fail)
   all_goals (refine af rfl ?_;show AV.d (D.bool _)=AV.d (D.bool _);congr 2;(try simp only[ao]at *);unfold ni;rw[hall];simp only[*, if_true,if_false,ay,aJ,aI,aK,aM,aL,az,aC,aD,aE,aF,aB])
theorem Fm(l:List ag)(hl:l.length<=100000):NQ.Fn cx 116 [.slice 3 (l.map b7)] (.d (.slice 1 ((gT l).map aA))) []:=by
 refine aO bf mixed Tryz.func116 (by kernel_rfl) rfl (ah rfl) ?_;conv=>whnf
 refine⟨Nat,fun k=>⟨[(0, .d (.slice 3 (l.map b7))),(3, .own 100),(4, .d (.int .i64 k))],[(100, .row 9 1 ((gT (l.take k)).map aA))]⟩,fun k=>k<=l.length,fun k=>l.length-k,
  ⟨0,Nat.zero_le _,(an.lM 3 100 1 9 1 rfl rfl (by decide)).trans (an.keep ⟨⟨rfl,rfl⟩,⟨rfl,rfl⟩,⟨rfl,rfl⟩,trivial⟩ ⟨⟨rfl,rfl⟩,trivial⟩)⟩,fun k hk=>?_⟩
 conv=>whnf
 refine ae (fun h1=>?_) (fun h1=>?_) <;> (rw[h1];conv=>whnf)
 . have hlt:k<l.length:=by simpa using h1
   obtain⟨x,hx⟩:∃x,l[k]? =some x:=⟨_,ai hlt⟩
   have hal:(gT (l.take k)).length<=k:=by have:=Fl (l.take k);rw[List.length_take]at this;omega
   generalize hA:gT (l.take k)=A at *
   refine⟨Nat×Bool,fun j=>⟨[(0, .d (.slice 3 (l.map b7))),(3, .own 100),(4, .d (.int .i64 k)),(5, .d (.bool j.2)),(6, .d (.int .i64 j.1))],[(100, .row 9 1 (A.map aA))]⟩,fun j=>j.1<=A.length/\j.2=(A.take j.1).contains x.zone.apex,fun j=>A.length-j.1,
    ⟨(0,false),⟨Nat.zero_le _,rfl⟩,an.keep ⟨⟨rfl,rfl⟩,⟨rfl,rfl⟩,⟨rfl,rfl⟩,⟨rfl,rfl⟩,⟨rfl,rfl⟩,trivial⟩ ⟨⟨by rw[<- hA];rfl,rfl⟩,trivial⟩⟩,fun⟨j,f⟩ ⟨hj,hf⟩=>?_⟩
   dsimp only at hj hf ⊢
   conv=>whnf
   refine ae (fun h2=>?_) (fun h2=>?_) <;> (rw[h2];conv=>whnf)
   . have hjl:j<A.length:=by simpa using h2
     obtain⟨y,hy⟩:∃y,A[j]? =some y:=⟨_,ai hjl⟩
     (refine⟨(by kernel_rfl:bH _ _=true),?_⟩;conv=>whnf)
     refine ae (fun h3=>?_) (fun h3=>?_) <;> (rw[h3];conv=>whnf)
     . refine⟨(j+1,true),⟨hjl,?_⟩,by(show A.length-(j+1)<A.length-j;omega),an.keep ⟨⟨rfl,rfl⟩,⟨rfl,rfl⟩,⟨rfl,rfl⟩,⟨rfl,rfl⟩,⟨au (by omega),rfl⟩,trivial⟩ ⟨⟨rfl,rfl⟩,trivial⟩⟩;dsimp only;rw[bt hy,List.contains_append, <- hf,h3];rfl
     . refine⟨aH j,by(show j<(A.map aA).length;rw[ao];exact hjl),?_⟩
       conv=>whnf
       refine⟨aA y,aU hy,?_⟩
       conv=>whnf
       refine⟨aH k,b7 x,aU hx,?_⟩
       conv=>whnf
       refine⟨(j+1,y==x.zone.apex),⟨hjl,?_⟩,by(show A.length-(j+1)<A.length-j;omega),an.keep ⟨⟨rfl,rfl⟩,⟨rfl,rfl⟩,⟨rfl,rfl⟩,⟨rfl,rfl⟩,⟨au (by omega),rfl⟩,trivial⟩ ⟨⟨rfl,rfl⟩,trivial⟩⟩;dsimp only;rw[bt hy,List.contains_append, <- hf,h3,az];simp only[List.contains_cons,List.contains_nil,aC];exact Bool.eq_iff_iff.2 ⟨fun h=>by simp at h ⊢;exact h.symm,fun h=>by simp at h ⊢;exact h.symm⟩
   . obtain rfl:j=A.length:=by simp at h2;omega
     rw[List.take_length]at hf;refine ae (fun h3=>?_) (fun h3=>?_) <;> (rw[h3];conv=>whnf)
     . have hc:A.contains x.zone.apex=false:=by rw[<- hf];simpa using h3
       refine⟨aH k,b7 x,aU hx,?_⟩
       conv=>whnf
       refine⟨by(show(A.map aA).length+1<=_);simp;omega,by(show((A.map aA).length+1)*16<=_);simp;omega,?_⟩
       conv=>whnf
       refine⟨k+1,hlt,by(show l.length-(k+1)<l.length-k;omega),an.keep ⟨⟨rfl,rfl⟩,⟨rfl,rfl⟩,⟨au (by omega),rfl⟩,trivial⟩ ⟨⟨?_,rfl⟩,trivial⟩⟩;rw[bt hx,uT,hA,if_neg (by rw[hc];simp),List.map_append];rfl
     . have hc:A.contains x.zone.apex=true:=by rw[<- hf];simpa using h3
       refine⟨k+1,hlt,by(show l.length-(k+1)<l.length-k;omega),an.keep ⟨⟨rfl,rfl⟩,⟨rfl,rfl⟩,⟨au (by omega),rfl⟩,trivial⟩ ⟨⟨?_,rfl⟩,trivial⟩⟩;rw[bt hx,uT,hA,if_pos hc];rfl
 . obtain rfl:k=l.length:=by simp at h1;omega
   refine af rfl ?_;rw[List.take_length];rfl
set_option maxHeartbeats 2000000 in
theorem Ju(w:bJ)(h1:w.hosts.length<=100000)(h2:w.zones.length<=100000)(h3:w.hints.length<=100000)(h4:∀p∈w.zones,p.zone.sets.length<=100000):NQ.Fn cx 59 [.agg (cv w)] (.d (.bool (cF w))) []:=by
 refine aO bf mixed Tryz.func59 (by kernel_rfl) rfl (ah rfl) ?_;conv=>whnf
 (refine⟨_,_,Ip w.hosts h1,?_⟩;conv=>whnf)
 cases e1:kZ w.hosts with
 | false =>
  conv=>whnf
  refine af rfl ?_;have:cF w=false:=by unfold cF;rw[e1];rfl
  rw[this];rfl
 | true =>
 conv=>whnf
 refine ae (fun g0=>?_) (fun g0=>?_) <;> (rw[g0];conv=>whnf)
 . refine af rfl ?_;have:cF w=false:=by
    have e3:decide ((w.zones.length:Int)<=4000)=false:=by
     have:=of_decide_eq_true g0;rw[ao]at this;exact decide_eq_false (by omega)
    unfold cF lG;rw[e3];simp
   rw[this];rfl
 (refine⟨_,_,I3 w.anchor w.hints h3,?_⟩;conv=>whnf)
 cases e2:ni w.anchor w.hints with
 | false =>
  conv=>whnf
  refine af rfl ?_;have:cF w=false:=by unfold cF;rw[e2];simp
  rw[this];rfl
 | true =>
 conv=>whnf
 have hyes:cF w=(fq w.hosts.length [] w.zones&&decide (((apx w.zones).length:Int)<=500)):=by
  have e3:(w.zones.length:Int)<=4000:=by
   have:=of_decide_eq_false g0;rw[ao]at this;omega
  unfold cF lG;rw[e1,e2,decide_eq_true e3];simp
 refine⟨Nat,fun k=>⟨[(1, .ptr 1 0),(3, .d (.int .i64 k))],[(1, .box ((cv w).map .d))]⟩,fun k=>k<=w.zones.length/\fq w.hosts.length (w.zones.take k) (w.zones.drop k)=fq w.hosts.length [] w.zones,fun k=>w.zones.length-k,
  ⟨0,⟨Nat.zero_le _,rfl⟩,an.keep ⟨⟨rfl,rfl⟩,⟨rfl,rfl⟩,trivial⟩ ⟨⟨rfl,rfl⟩,trivial⟩⟩,fun k ⟨hk,hinv⟩=>?_⟩
 conv=>whnf
 refine ae (fun g1=>?_) (fun g1=>?_) <;> (rw[g1];conv=>whnf)
 . have hlt:k<w.zones.length:=by simpa using g1
   obtain⟨x,hx⟩:∃x,w.zones[k]? =some x:=⟨_,ai hlt⟩
   rw[u3 hx]at hinv;refine⟨aH k,b7 x,aU hx,?_⟩
   conv=>whnf
   (refine⟨_,_,zQ x.zone (h4 x (aq hx)),?_⟩;conv=>whnf)
   have bad:(decide (x.host<0)||decide (x.host>=(w.hosts.length:Int))||(w.zones.take k).any (gK x)|| !bE x.zone)=true->cF w=false:=fun hb=>by
    rw[hyes, <- hinv,hb];rfl
   refine ae (fun g2=>?_) (fun g2=>?_) <;> (rw[g2];conv=>whnf)
   . refine af rfl ?_;rw[bad (by simp_all)];rfl
   refine ae (fun g3=>?_) (fun g3=>?_) <;> (rw[g3];conv=>whnf)
   . refine af rfl ?_;rw[bad (by simp_all)];rfl
   refine ae (fun g4=>?_) (fun g4=>?_) <;> (rw[g4];conv=>whnf)
   . refine af rfl ?_;rw[bad (by(try simp only[ao]at *);simp_all)];rfl
   refine⟨Nat,fun j=>⟨[(1, .ptr 1 0),(3, .d (.int .i64 k)),(4, .ptr 4 0),(6, .d (.int .i64 j))],[(1, .box ((cv w).map .d)),(4, .box ((b7 x).map .d))]⟩,fun j=>j<=k/\(w.zones.take j).any (gK x)=false,fun j=>k-j,
    ⟨0,⟨Nat.zero_le _,rfl⟩,an.keep ⟨⟨rfl,rfl⟩,⟨rfl,rfl⟩,⟨rfl,rfl⟩,⟨rfl,rfl⟩,trivial⟩ ⟨⟨rfl,rfl⟩,⟨rfl,rfl⟩,trivial⟩⟩,fun j ⟨hj,hno⟩=>?_⟩
   conv=>whnf
   refine ae (fun g5=>?_) (fun g5=>?_) <;> (rw[g5];conv=>whnf)
   . have hjk:j<k:=by simpa using g5
     obtain⟨y,hy⟩:∃y,w.zones[j]? =some y:=⟨_,ai (by omega)⟩
     (refine⟨(by kernel_rfl:bH _ _=true),?_⟩;conv=>whnf)
     refine⟨aH j,b7 y,aU hy,?_⟩
     conv=>whnf
     have next:gK x y=false->j+1<=k/\(w.zones.take (j+1)).any (gK x)=false:=fun hs=>⟨hjk,by rw[bt hy,List.any_append,hno];simp[hs]⟩
     refine ae (fun g6=>?_) (fun g6=>?_) <;> (rw[g6];conv=>whnf)
     . refine⟨aH j,b7 y,aU hy,?_⟩
       conv=>whnf
       refine ae (fun g7=>?_) (fun g7=>?_) <;> (rw[g7];conv=>whnf)
       . refine af rfl ?_;have:(w.zones.take k).any (gK x)=true:=by
          rw[List.any_eq_true];refine⟨y,aq (i:=j) (by rw[List.getElem?_take,if_pos hjk];exact hy),?_⟩;simp at g6 g7;simp[gK,g6,g7]
         rw[bad (by rw[this];simp)];rfl
       . exact⟨j+1,next (by unfold gK;simp at g7;rw[Bool.and_eq_false_iff];right;simp;exact fun e=>g7 e.symm),by(show k-(j+1)<k-j;omega),an.keep ⟨⟨rfl,rfl⟩,⟨rfl,rfl⟩,⟨rfl,rfl⟩,⟨au (by omega),rfl⟩,trivial⟩ ⟨⟨rfl,rfl⟩,⟨rfl,rfl⟩,trivial⟩⟩
     . exact⟨j+1,next (by unfold gK;simp at g6;rw[Bool.and_eq_false_iff];left;simp;exact fun e=>g6 e.symm),by(show k-(j+1)<k-j;omega),an.keep ⟨⟨rfl,rfl⟩,⟨rfl,rfl⟩,⟨rfl,rfl⟩,⟨au (by omega),rfl⟩,trivial⟩ ⟨⟨rfl,rfl⟩,⟨rfl,rfl⟩,trivial⟩⟩
   . obtain rfl:j=k:=by simp at g5;omega
     refine⟨j+1,⟨hlt,?_⟩,by(show w.zones.length-(j+1)<w.zones.length-j;omega),an.keep ⟨⟨rfl,rfl⟩,⟨au (by omega),rfl⟩,trivial⟩ ⟨⟨rfl,rfl⟩,trivial⟩⟩;rw[bt hx, <- hinv];clear hinv hyes bad;have e1:decide (x.host<0)=false:=g3;have e2:decide (x.host>=(w.hosts.length:Int))=false:=by(try simp only[ao]at g4);exact g4
     have e3:(!bE x.zone)=false:=g2;rw[e1,e2,e3,hno];simp
 . obtain rfl:k=w.zones.length:=by simp at g1;omega
   (refine⟨_,_,Fm w.zones h2,?_⟩;conv=>whnf)
   refine af rfl ?_;show AV.d (D.bool _)=AV.d (D.bool _)
   congr 2
   rw[List.drop_length]at hinv;rw[hyes, <- hinv,Mw];simp[fq]
def FP:Nat->List Nat:=fun | 7=>[55555] | 12=>[55555] | _=>[]
theorem zi(w:bJ)(hz:(w.zones.take 21).all (fun p=>eI p.zone&&decide (p.zone.apex.length<=100))=true)(hh:(w.hosts.take 71).all (fun h=>decide (h.name.length<=100))=true)(st:St)(hs:an cx st ⟨[(1, .ptr 1 0)],[(1, .box ((cv w).map .d))]⟩) :
 vc cx Tryz.f12.ntmps FP (np 3 ((Tryz.f12.body).getD .skip)) (fnQ cx Tryz.f12.results.toList (.d (.bool (mL w))) []) st:=by
 conv=>whnf
 refine⟨_,hs,?_⟩
 conv=>whnf
 have e:mL w=(decide ((w.zones.length:Int)<=20)&&decide ((w.hosts.length:Int)<=70)&&decide ((w.hints.length:Int)<=20)&&decide ((w.anchor.data.length:Int)<=20)):=by
  unfold mL;rw[hz,hh];rfl
 repeat' (first | (refine ae (fun h=>?_) (fun h=>?_) <;> (rw[h];conv=>whnf)) | fail)
 all_goals (refine af rfl ?_;show AV.d (D.bool _)=AV.d (D.bool _);congr 2;(try simp only[ao]at *);rw[e];simp only[*, if_true,if_false,ay,aJ,aI,aK,aM,aL,az,aC,aD,aE,aF,aB])
theorem BD(w:bJ)(hz:(w.zones.take 21).all (fun p=>eI p.zone&&decide (p.zone.apex.length<=100))=true)(st:St)(hs:an cx st ⟨[(1, .ptr 1 0)],[(1, .box ((cv w).map .d))]⟩) :
 vc cx Tryz.f12.ntmps FP (np 2 ((Tryz.f12.body).getD .skip)) (fnQ cx Tryz.f12.results.toList (.d (.bool (mL w))) []) st:=by
 conv=>whnf
 refine⟨_,hs,?_⟩
 conv=>whnf
 refine⟨Nat,fun k=>⟨[(1, .ptr 1 0),(5, .d (.int .i64 k))],[(1, .box ((cv w).map .d))]⟩,fun k=>k<=w.hosts.length/\k<=71/\(w.hosts.take k).all (fun h=>decide (h.name.length<=100))=true,fun k=>w.hosts.length-k,
  ⟨0,⟨Nat.zero_le _,Nat.zero_le _,rfl⟩,an.keep ⟨⟨rfl,rfl⟩,⟨rfl,rfl⟩,trivial⟩ ⟨⟨rfl,rfl⟩,trivial⟩⟩,fun k ⟨hk,hk2,hall⟩=>?_⟩
 conv=>whnf
 refine ae (fun g1=>?_) (fun g1=>?_) <;> (rw[g1];conv=>whnf)
 . have hlt:k<w.hosts.length:=by simpa using g1
   obtain⟨x,hx⟩:∃x,w.hosts[k]? =some x:=⟨_,ai hlt⟩
   refine ae (fun g2=>?_) (fun g2=>?_) <;> (rw[g2];conv=>whnf)
   . have hk3:k<71:=by simp at g2;omega
     refine⟨aH k,kC x,aU hx,?_⟩
     conv=>whnf
     refine ae (fun g4=>?_) (fun g4=>?_) <;> (rw[g4];conv=>whnf)
     . refine af rfl ?_;have:(w.hosts.take 71).all (fun h=>decide (h.name.length<=100))=false:=by
        rw[<- Bool.not_eq_true,ax];intro h;have:=h x (aq (i:=k) (by rw[List.getElem?_take,if_pos hk3];exact hx));simp at g4 this;omega
       have:mL w=false:=by unfold mL;rw[this];simp
       rw[this];rfl
     . refine⟨k+1,⟨hlt,by omega,?_⟩,by(show w.hosts.length-(k+1)<w.hosts.length-k;omega),an.keep ⟨⟨rfl,rfl⟩,⟨au (by omega),rfl⟩,trivial⟩ ⟨⟨rfl,rfl⟩,trivial⟩⟩;rw[bt hx,List.all_append,hall];simp at g4;simp;omega
   . have:k=71:=by simp at g2;omega
     subst this;exact zi w hz hall _ (an.keep ⟨⟨rfl,rfl⟩,trivial⟩ ⟨⟨rfl,rfl⟩,trivial⟩)
 . obtain rfl:k=w.hosts.length:=by simp at g1;omega
   exact zi w hz (by rw[List.take_length]at hall;rw[List.take_of_length_le hk2];exact hall) _ (an.keep ⟨⟨rfl,rfl⟩,trivial⟩ ⟨⟨rfl,rfl⟩,trivial⟩)
theorem MJ(w:bJ):NQ.Fn cx 12 [.agg (cv w)] (.d (.bool (mL w))) []:=by
 refine cR FP bf mixed Tryz.func12 (by kernel_rfl) rfl (ah rfl) ?_
 conv=>whnf
 refine⟨Nat,fun k=>⟨[(1, .ptr 1 0),(3, .d (.int .i64 k))],[(1, .box ((cv w).map .d))]⟩,fun k=>k<=w.zones.length/\k<=21/\(w.zones.take k).all (fun p=>eI p.zone&&decide (p.zone.apex.length<=100))=true,fun k=>w.zones.length-k,
  ⟨0,⟨Nat.zero_le _,Nat.zero_le _,rfl⟩,an.keep ⟨⟨rfl,rfl⟩,⟨rfl,rfl⟩,trivial⟩ ⟨⟨rfl,rfl⟩,trivial⟩⟩,fun k ⟨hk,hk2,hall⟩=>?_⟩
 conv=>whnf
 have no:∀p,w.zones[k]? =some p->k<21->(eI p.zone&&decide (p.zone.apex.length<=100))=false->mL w=false:=fun p hp hk hb=>by
  have:(w.zones.take 21).all (fun p=>eI p.zone&&decide (p.zone.apex.length<=100))=false:=by
   rw[<- Bool.not_eq_true,ax];intro h;rw[h p (aq (i:=k) (by rw[List.getElem?_take,if_pos hk];exact hp))]at hb;cases hb
  unfold mL;rw[this];simp
 refine ae (fun g1=>?_) (fun g1=>?_) <;> (rw[g1];conv=>whnf)
 . have hlt:k<w.zones.length:=by simpa using g1
   obtain⟨x,hx⟩:∃x,w.zones[k]? =some x:=⟨_,ai hlt⟩
   refine ae (fun g2=>?_) (fun g2=>?_) <;> (rw[g2];conv=>whnf)
   . have hk3:k<21:=by simp at g2;omega
     refine⟨aH k,b7 x,aU hx,?_⟩
     conv=>whnf
     (refine⟨_,_,NU x.zone,?_⟩;conv=>whnf)
     refine ae (fun g3=>?_) (fun g3=>?_) <;> (rw[g3];conv=>whnf)
     . refine af rfl ?_;rw[no x hx hk3 (by simp_all)];rfl
     refine⟨aH k,b7 x,aU hx,?_⟩
     conv=>whnf
     refine ae (fun g4=>?_) (fun g4=>?_) <;> (rw[g4];conv=>whnf)
     . refine af rfl ?_;rw[no x hx hk3 (by simp at g4;simp;omega)];rfl
     . refine⟨k+1,⟨hlt,by omega,?_⟩,by(show w.zones.length-(k+1)<w.zones.length-k;omega),an.keep ⟨⟨rfl,rfl⟩,⟨au (by omega),rfl⟩,trivial⟩ ⟨⟨rfl,rfl⟩,trivial⟩⟩;rw[bt hx,List.all_append,hall];simp at g3 g4;simp[g3];omega
   . have:k=21:=by simp at g2;omega
     subst this;exact BD w hall _ (an.keep ⟨⟨rfl,rfl⟩,trivial⟩ ⟨⟨rfl,rfl⟩,trivial⟩)
 . obtain rfl:k=w.zones.length:=by simp at g1;omega
   exact BD w (by rw[List.take_length]at hall;rw[List.take_of_length_le hk2];exact hall) _ (an.keep ⟨⟨rfl,rfl⟩,trivial⟩ ⟨⟨rfl,rfl⟩,trivial⟩)
end Go.Proofs.YtjapjahfllomkaaGreatDoor
namespace NP
open NQ Go
end NP
namespace Go.Proofs.YtjapjahfllomkaaGreatDoor
open NQ Go NP Go.RowKit
theorem Np(z:aQ)(q:bg)(hf:eI z=true):NQ.Fn cx 78 [.agg (bp z), .agg (cT q)] (.tuple [.agg ((dw (bG z q).1).map .d), .d (.int .i64 (bG z q).2)]) []:=No hf q ▸ Gs z q hf
end Go.Proofs.YtjapjahfllomkaaGreatDoor
namespace NP
open NQ Go
theorem DQ{p q:ag}(hp:bE p.zone=true)(hq:bE q.zone=true):du p q=(decide (jf p.zone>jf q.zone)||(decide (jf p.zone=jf q.zone)&&decide (p.host<q.host))):=by
 unfold du fc;rw[hp,hq];rfl
theorem CQ(zs : List ag)(q : bg)(f : Nat)(a : Bs) : lR zs (dx zs) q (f + 1) a = match bX zs a with
  | none=>(lp,false)
  | some x=>if ((bG x.2.zone q).1.kind != 4)=true then((bG x.2.zone q).1,true)else lR zs (dx zs) q f (bG x.2.zone q).1.cut:=by
 rw[lR,pS];cases h:bX zs a with
 | none=>rfl
 | some x =>
  simp only[Option.map_some];rw[v7 zs a x h]
end NP
namespace Go.Proofs.YtjapjahfllomkaaGreatDoor
open NQ Go NP Go.RowKit
theorem Bq(zs:List ag)(a:Bs)(hz:∀p∈zs,bE p.zone=true)(hl:zs.length<=100000):NQ.Fn cx 21 [.slice 3 (zs.map b7), .str a] (.d (.int .i64 (Lf (bX zs a)))) []:=by
 refine aO bf mixed Tryz.func21 (by kernel_rfl) rfl (ah rfl) ?_;conv=>whnf
 refine⟨Nat×Option (Nat×ag),fun x=>⟨[(0, .d (.slice 3 (zs.map b7))),(1, .d (.str a)),(5, .d (.int .i64 (Lf x.2))),(6, .d (.int .i64 x.1))],[]⟩,
  fun x=>x.1<=zs.length/\lS zs x.2/\fR (fun p=>p.zone.apex==a) du x.1 (zs.drop x.1) x.2=bX zs a,fun x=>zs.length-x.1,
  ⟨(0,none),⟨Nat.zero_le _,(fun x hx=>by cases hx),rfl⟩,an.keep ⟨⟨rfl,rfl⟩,⟨rfl,rfl⟩,⟨rfl,rfl⟩,⟨rfl,rfl⟩,trivial⟩ trivial⟩,fun⟨k,b⟩ ⟨hk,hb,hinv⟩=>?_⟩
 dsimp only at hk hb hinv ⊢
 conv=>whnf
 refine ae (fun h1=>?_) (fun h1=>?_) <;> (rw[h1];conv=>whnf)
 . have hlt:k<zs.length:=by simpa using h1
   obtain⟨p,hp⟩:∃p,zs[k]? =some p:=⟨_,ai hlt⟩
   have hpv:=hz p (aq hp);rw[Hg hp]at hinv;have next:∀b',b' =ck (fun p=>p.zone.apex==a) du k p b->(k+1<=zs.length/\lS zs b' /\fR (fun p=>p.zone.apex==a) du (k+1) (zs.drop (k+1)) b' =bX zs a):=fun b' e=>by
    rw[e];exact⟨hlt,hb.step hp,hinv⟩
   refine⟨aH k,b7 p,aU hp,?_⟩
   conv=>whnf
   refine ae (fun h2=>?_) (fun h2=>?_) <;> (rw[h2];conv=>whnf)
   . exact⟨(k+1,b),next _ (by unfold ck;rw[if_neg (by simpa using h2)]),by(show zs.length-(k+1)<zs.length-k;omega),an.keep ⟨⟨rfl,rfl⟩,⟨rfl,rfl⟩,⟨rfl,rfl⟩,⟨au (by omega),rfl⟩,trivial⟩ trivial⟩
   have ha:(p.zone.apex==a)=true:=by simpa using h2
   cases b with
   | none =>
    conv=>whnf
    exact⟨(k+1,some (k,p)),next _ (by unfold ck;rw[if_pos ha]),by(show zs.length-(k+1)<zs.length-k;omega),an.keep ⟨⟨rfl,rfl⟩,⟨rfl,rfl⟩,⟨rfl,rfl⟩,⟨au (by omega),rfl⟩,trivial⟩ trivial⟩
   | some x =>
    have hx:=hb x rfl;have hxv:=hz x.2 (aq hx);have hnew:=DQ hpv hxv
    conv=>whnf
    refine⟨aH k,b7 p,aU hp,?_⟩
    conv=>whnf
    (refine⟨_,_,vF p.zone hpv,?_⟩;conv=>whnf)
    refine⟨aH x.1,b7 x.2,aU hx,?_⟩
    conv=>whnf
    (refine⟨_,_,vF x.2.zone hxv,?_⟩;conv=>whnf)
    (refine⟨(by kernel_rfl:bH _ _=true),?_⟩;conv=>whnf)
    repeat' (first
     | (refine ae (fun h=>?_) (fun h=>?_) <;> (rw[h];conv=>whnf))
     | (refine⟨aH k,b7 p,aU hp,?_⟩;conv=>whnf)
     | (refine⟨aH x.1,b7 x.2,aU hx,?_⟩;conv=>whnf)
     | fail)
    all_goals first
     | (refine⟨(k+1,some (k,p)),next _ (by unfold ck;rw[if_pos ha];dsimp only;rw[if_pos (by rw[hnew];simp_all;done)]),by(show zs.length-(k+1)<zs.length-k;omega),an.keep ⟨⟨rfl,rfl⟩,⟨rfl,rfl⟩,⟨rfl,rfl⟩,⟨au (by omega),rfl⟩,trivial⟩ trivial⟩;done)
     | (refine⟨(k+1,some x),next _ (by unfold ck;rw[if_pos ha];dsimp only;rw[if_neg (by rw[hnew];simp_all;done)]),by(show zs.length-(k+1)<zs.length-k;omega),an.keep ⟨⟨rfl,rfl⟩,⟨rfl,rfl⟩,⟨rfl,rfl⟩,⟨au (by omega),rfl⟩,trivial⟩ trivial⟩;done)
     | (refine⟨(k+1,some x),next _ (by unfold ck;rw[if_pos ha];dsimp only;rw[if_neg (by rw[hnew];simp_all;omega)]),by(show zs.length-(k+1)<zs.length-k;omega),an.keep ⟨⟨rfl,rfl⟩,⟨rfl,rfl⟩,⟨rfl,rfl⟩,⟨au (by omega),rfl⟩,trivial⟩ trivial⟩;done)
 . obtain rfl:k=zs.length:=by simp at h1;omega
   refine af rfl ?_;rw[<- hinv,List.drop_length];rfl
theorem KN(w:bJ)(s:Bs)(hF:kR w):NQ.Fn cx 39 [.agg (cv w), .str s] (.tuple [.d (.str (iW (cF w) w s).1), .d (.int .i64 (iW (cF w) w s).2)]) [] :=
 MQ w s (cF w) (Ad w (by have:=hF.hosts;omega) (by have:=hF.zones;omega) (by have:=hF.hints;omega)) (by have:=hF.zones;omega)
theorem pU(w:bJ)(hF:kR w):NQ.Fn cx 43 [.agg (cv w)] (.d (.bool (cF w))) []:=Ad w (by have:=hF.hosts;omega) (by have:=hF.zones;omega) (by have:=hF.hints;omega)
theorem GP(w:bJ)(hF:kR w):NQ.Fn cx 59 [.agg (cv w)] (.d (.bool (cF w))) []:=Ju w (by have:=hF.hosts;omega) (by have:=hF.zones;omega) (by have:=hF.hints;omega) (fun p hp=>by have:=(dH (hF.few p hp)).1;omega)
end Go.Proofs.YtjapjahfllomkaaGreatDoor
namespace NP
open NQ Go
theorem Az{s a b:Bs}(ha:aG s a=true)(hb:aG s b=true)(h:qL a<=qL b):aG b a=true:=by
 rw[dN]at ha hb ⊢;refine List.prefix_of_prefix_length_le ha hb ?_;unfold qL at h;rw[back_eq,back_eq,List.length_reverse,List.length_reverse];omega
theorem rl{s:Bs}{p:ag}(hp:aj p.zone.apex=true):lZ (-1) s [] p=aG s p.zone.apex:=by
 unfold lZ;have:(p.zone.apex==[])=false:=by simpa using CU hp
 rw[this];simp
end NP
namespace Go.Proofs.YtjapjahfllomkaaGreatDoor
open NQ Go NP Go.RowKit
end Go.Proofs.YtjapjahfllomkaaGreatDoor
namespace NP
open NQ Go
theorem zF{α:Type}[BEq α][LawfulBEq α]:∀{a b:List α},a.Nodup->(∀x∈a,x∈b)->a.length<=b.length
 | [],b,_,_=>Nat.zero_le _
 | x::t,b,hn,hs=>by
  have hx:=hs x (List.mem_cons_self ..);rw[List.nodup_cons]at hn;have:=zF (b:=b.erase x) hn.2 fun y hy=>(List.mem_erase_of_ne (fun(e:y=x)=>hn.1 (e ▸ hy))).2 (hs y (aW _ hy))
  rw[List.length_erase_of_mem hx]at this;have h0:0<b.length:=List.length_pos_of_mem hx;rw[List.length_cons];omega
end NP
namespace Go.Proofs.YtjapjahfllomkaaGreatDoor
open NQ Go NP Go.RowKit
end Go.Proofs.YtjapjahfllomkaaGreatDoor
namespace NP
open NQ Go
theorem y9{ok:ag->Bool}{better:ag->ag->Bool}(hirr:∀p,better p p=false)(htr:∀p q r,better p q=true->better q r=true->better p r=true):∀(l:List ag) (i:Nat) (b:Option (Nat×ag)) (x:Nat×ag),fR ok better i l b=some x ->
 (b=some x\/(x.2∈l/\ok x.2=true))/\(∀e,(∀y,b=some y->better e y.2=false)->b ≠ none->better e x.2=false)/\ ∀p∈l,ok p=true->better p x.2=false
 | [],i,b,x,h=>by cases h;exact⟨.inl rfl,fun e he _=>he x rfl,fun p hp=>by cases hp⟩
 | p::t,i,b,x,h=>by
  have h' :fR ok better (i+1) t (ck ok better i p b)=some x:=h;obtain⟨h1,h2,h3⟩:=y9 hirr htr t (i+1) _ x h';by_cases hp:ok p=true
  . cases b with
    | none =>
     have e0:ck ok better i p none=some (i,p):=by unfold ck;rw[if_pos hp]
     rw[e0]at h1 h2;refine⟨.inr ?_,fun e he hb=>absurd rfl hb,fun q hq hoq=>?_⟩
     . rcases h1 with h1 | h1
       . cases h1;exact⟨List.mem_cons_self .., hp⟩
       . exact⟨aW _ h1.1,h1.2⟩
     . rcases List.mem_cons.1 hq with rfl | hq
       . exact h2 q (fun y hy=>by cases hy;exact hirr q) (by simp)
       . exact h3 q hq hoq
    | some y =>
     by_cases hbt:better p y.2=true
     . have e0:ck ok better i p (some y)=some (i,p):=by unfold ck;rw[if_pos hp];dsimp only;rw[if_pos hbt]
       rw[e0]at h1 h2;refine⟨.inr ?_,fun e he _=>?_,fun q hq hoq=>?_⟩
       . rcases h1 with h1 | h1
         . cases h1;exact⟨List.mem_cons_self .., hp⟩
         . exact⟨aW _ h1.1,h1.2⟩
       . refine h2 e (fun z hz=>?_) (by simp);cases hz;cases hc:better e p with
         | false=>rfl
         | true =>
          have:=htr e p y.2 hc hbt;rw[he y rfl]at this;cases this
       . rcases List.mem_cons.1 hq with rfl | hq
         . exact h2 q (fun z hz=>by cases hz;exact hirr q) (by simp)
         . exact h3 q hq hoq
     . have e0:ck ok better i p (some y)=some y:=by unfold ck;rw[if_pos hp];dsimp only;rw[if_neg hbt]
       rw[e0]at h1 h2;refine⟨h1.imp id fun h1=>⟨aW _ h1.1,h1.2⟩,fun e he hb=>h2 e he hb,fun q hq hoq=>?_⟩;rcases List.mem_cons.1 hq with rfl | hq
       . exact h2 q (fun z hz=>by cases hz;simpa using hbt) (by simp)
       . exact h3 q hq hoq
  . have e0:ck ok better i p b=b:=by unfold ck;rw[if_neg hp]
    rw[e0]at h1 h2;refine⟨h1.imp id fun h1=>⟨aW _ h1.1,h1.2⟩,h2,fun q hq hoq=>?_⟩;rcases List.mem_cons.1 hq with rfl | hq
    . exact absurd hoq hp
    . exact h3 q hq hoq
theorem zD(p q:ag):du p q=true ↔ (fc q.zone).1<(fc p.zone).1\/((fc p.zone).1=(fc q.zone).1/\p.host<q.host):=by
 unfold du;simp
theorem IN(p:ag):du p p=false:=by
 rw[<- Bool.not_eq_true,zD];omega
theorem K3(p q r:ag)(h:du p q=true)(k:du q r=true):du p r=true:=by
 rw[zD]at h k ⊢;omega
theorem Br{zs:List ag}{a:Bs}{x:Nat×ag}(h:bX zs a=some x):x.2∈zs/\x.2.zone.apex=a/\ ∀p∈zs,p.zone.apex=a->du p x.2=false:=by
 obtain⟨h1,_,h3⟩:=y9 IN K3 zs 0 none x h;rcases h1 with h1 | h1
 . cases h1
 . exact⟨h1.1,by simpa using h1.2,fun p hp ha=>h3 p hp (by simpa using ha)⟩
theorem Ht{zs:List ag}{a:Bs}:bX zs a=none ↔ ∀p∈zs,p.zone.apex ≠ a:=by
 unfold bX;rw[pq];simp
end NP
