/-
  Texts of the proof, merged in build order.
-/
import Derived.Test.YtcecidfnchcagaaGreatDoorMGa
import Derived.Test.YtcecidfnchcagaaGreatDoorQsoM
import Derived.Test.YtcecidfnchcagaaGreatDoorSortM
import Derived.Test.YtcecidfnchcagaaGreatDoorMLrc
import Derived.Test.YtcecidfnchcagaaGreatDoorMCa
import Derived.Test.YtcecidfnchcagaaGreatDoorMVa
set_option linter.all false
set_option maxRecDepth 100000
namespace NP
open NQ Go
def gE(ok:ag->Bool)(better:ag->ag->Bool):Nat->List ag->Option (Nat×ag)->Option (Nat×ag)
 | _,[],b=>b
 | i,p::t,b=>gE ok better (i+1) t (if ok p=true then(match b with | none=>some (i,p) | some x=>if better p x.2=true then some (i,p)else b)else b)
def Nx:Option (Nat×ag)->Int
 | none=> -1
 | some x=>(x.1:Int)
def bR(ok:ag->Bool)(better:ag->ag->Bool)(i:Nat)(p:ag)(b:Option (Nat×ag)):Option (Nat×ag):=if ok p=true then(match b with | none=>some (i,p) | some x=>if better p x.2=true then some (i,p)else b)else b
theorem GN{ok:ag->Bool}{better:ag->ag->Bool}{l:List ag}{k:Nat}{p:ag}(h:l[k]? =some p)(b:Option (Nat×ag)):gE ok better k (l.drop k) b=gE ok better (k+1) (l.drop (k+1)) (bR ok better k p b):=by
 rw[drop_cons h];rfl
def kZ(zs:List ag)(b:Option (Nat×ag)):Prop:= ∀x,b=some x->zs[x.1]? =some x.2
theorem kZ.step{zs:List ag}{b:Option (Nat×ag)}(h:kZ zs b){ok:ag->Bool}{better:ag->ag->Bool}{i:Nat}{p:ag}(hp:zs[i]? =some p):kZ zs (bR ok better i p b):=by
 intro x hx;unfold bR at hx;split at hx
 . split at hx
   . cases hx;exact hp
   . split at hx
     . cases hx;exact hp
     . exact h x hx
 . exact h x hx
theorem DQ{zs:List ag}{ok:ag->Bool}{better:ag->ag->Bool}:∀(l:List ag) (i:Nat) (b:Option (Nat×ag)),(∀j,l[j]? =zs[i+j]?)->kZ zs b->kZ zs (gE ok better i l b)
 | [],i,b,_,h=>h
 | p::t,i,b,hl,h=>DQ t (i+1) _ (fun j=>by have:=hl (j+1);simp at this;rw[this];congr 1;omega) (h.step (by have:=hl 0;simpa using this.symm))
theorem rS{ok:ag->Bool}{better:ag->ag->Bool}:∀(l:List ag) (i:Nat) (b:Option (Nat×ag)),gE ok better i l b=none ↔ (b=none/\ ∀p∈l,ok p=false)
 | [],i,b=>by simp[gE]
 | p::t,i,b=>by
  show gE ok better (i+1) t (bR ok better i p b)=none ↔ _
  rw[rS t];unfold bR;cases hp:ok p <;> cases b <;> simp[hp];intro h;split at h <;> cases h
def aN(zs:List ag)(a:Bs):Option (Nat×ag):=gE (fun p=>p.zone.apex==a) cC 0 zs none
theorem zn{zs:List ag}{a:Bs}:∀(l:List ag) (i:Nat) (m:List (Bs×Nat)) (b:Option (Nat×ag)),(∀j,l[j]? =zs[i+j]?)->kZ zs b->cF a m=b.map (·.1)->cF a (fk zs i l m)=(gE (fun p=>p.zone.apex==a) cC i l b).map (·.1)
 | [],i,m,b,_,_,h=>h
 | p::t,i,m,b,hl,hb,h=>by
  have hp:zs[i]? =some p:=by have:=hl 0;simpa using this.symm
  show cF a (fk zs (i+1) t (if cT zs m p=true then du p.zone.apex i m else m))=(gE (fun p=>p.zone.apex==a) cC (i+1) t (bR (fun p=>p.zone.apex==a) cC i p b)).map (·.1)
  refine zn t (i+1) _ _ (fun j=>by have:=hl (j+1);simp at this;rw[this];congr 1;omega) (hb.step hp) ?_;by_cases ha:p.zone.apex=a
  . have hb' :∀b,bR (fun p=>p.zone.apex==a) cC i p b=(match b with | none=>some (i,p) | some x=>if cC p x.2=true then some (i,p)else b):=fun b=>by
     unfold bR;exact if_pos (by show(p.zone.apex==a)=true;rw[ha];exact beq_self_eq_true a)
    rw[hb'];cases b with
    | none =>
     have ht:cT zs m p=true:=by unfold cT;rw[ha,h];rfl
     rw[if_pos ht,mO,if_pos ha];rfl
    | some x =>
     have hx:=hb x rfl;have ht:cT zs m p=cC p x.2:=by unfold cT;rw[ha,h];simp only[Option.map_some];rw[hx]
     dsimp only;rw[ht];split
     . rw[mO,if_pos ha];rfl
     . exact h
  . have hb' :bR (fun p=>p.zone.apex==a) cC i p b=b:=by unfold bR;exact if_neg (by simpa using ha)
    rw[hb'];split
    . rw[mO,if_neg ha];exact h
    . exact h
theorem o7(zs:List ag)(a:Bs):cF a (bC zs)=(aN zs a).map (·.1):=zn zs 0 [] none (fun j=>by rw[Nat.zero_add]) (fun x hx=>by cases hx) rfl
theorem vj(zs:List ag)(a:Bs):kZ zs (aN zs a):=DQ zs 0 none (fun j=>by rw[Nat.zero_add]) (fun x hx=>by cases hx)
theorem rA{n:Nat}:∀(l seen:List ag),cJ n seen l=true->l.Pairwise (fun x p=>cL p x=false)/\ ∀p∈l,seen.any (cL p)=false
 | [],_,_=>⟨List.Pairwise.nil,fun p hp=>by cases hp⟩
 | x::t,seen,h=>by
  unfold cJ at h;simp only[Bool.and_eq_true,Bool.not_eq_true',Bool.or_eq_false_iff]at h;obtain⟨h1,h2⟩:=rA t _ h.2;refine⟨List.Pairwise.cons (fun p hp=>?_) h1,fun p hp=>?_⟩
  . have:=h2 p hp;rw[List.any_append]at this;simp only[Bool.or_eq_false_iff,List.any_cons,List.any_nil,Bool.or_false]at this;exact this.2
  . rcases List.mem_cons.1 hp with rfl | hp
    . exact h.1.1.2
    . have:=h2 p hp;rw[List.any_append]at this;simp only[Bool.or_eq_false_iff]at this;exact this.1
theorem DG{w:aQ}(h:aX w=true):w.zones.Pairwise (fun x p=>cL p x=false):=by
 unfold aX gX at h;simp only[Bool.and_eq_true]at h;exact(rA _ _ h.1.2.1.2).1
theorem y5:∀{zs:List ag},zs.Pairwise (fun x p=>cL p x=false)-> ∀{p q:ag},p∈zs->q∈zs->p.host=q.host->p.zone.apex=q.zone.apex->p=q
 | [],_,p,q,hp,_,_,_=>by cases hp
 | x::t,h,p,q,hp,hq,e1,e2=>by
  cases h with | cons h1 h2 =>
  rcases List.mem_cons.1 hp with hp' | hp'
  . rcases List.mem_cons.1 hq with hq' | hq'
    . rw[hp',hq']
    . have:=h1 q hq';rw[<- hp']at this;unfold cL at this;simp[e1,e2]at this
  . rcases List.mem_cons.1 hq with hq' | hq'
    . have:=h1 p hp';rw[<- hq']at this;unfold cL at this;simp[e1,e2]at this
    . exact y5 h2 hp' hq' e1 e2
def dV(l:List ag):List Bs:=l.foldl (fun out p=>if out.contains p.zone.apex=true then out else out++[p.zone.apex]) []
theorem ue(l:List ag)(p:ag):dV (l++[p])=if (dV l).contains p.zone.apex=true then dV l else dV l++[p.zone.apex]:=by unfold dV;rw[List.foldl_append];rfl
theorem EU(l:List ag):(dV l).length<=l.length:=by
 have key:∀(l:List ag) (out:List Bs),(l.foldl (fun out p=>if out.contains p.zone.apex=true then out else out++[p.zone.apex]) out).length<=out.length+l.length:=fun l=>by
  induction l with
  | nil=>intro out;simp
  | cons p t ih =>
   intro out;refine Nat.le_trans (ih _) ?_;dsimp only;split <;> simp <;> omega
 have:=key l [];rw[List.length_nil,Nat.zero_add]at this;exact this
theorem xk(a:Bs)(v:D):∀m:List (Bs×D),(bM a v m).map (·.1)=if (m.map (·.1)).contains a=true then m.map (·.1)else m.map (·.1)++[a]
 | []=>by simp[bM]
 | (b,x)::t=>by
  show(if a=b then _ else _::bM a v t).map (·.1)=_
  by_cases h:a=b
  . subst h;simp
  . rw[if_neg h];simp only[List.map_cons,List.contains_cons];rw[xk a v t];have:(a==b)=false:=by simpa using h
    rw[this,Bool.false_or];split <;> simp
theorem Jn(l:List ag):(apx l).map (·.1)=dV l:=by
 have key:∀(l:List ag) (m:List (Bs×D)),(l.foldl (fun m p=>bM p.zone.apex (.bool true) m) m).map (·.1)=l.foldl (fun out p=>if out.contains p.zone.apex=true then out else out++[p.zone.apex]) (m.map (·.1)):=fun l=>by
  induction l with
  | nil=>intro m;rfl
  | cons p t ih=>intro m;simp only[List.foldl_cons];rw[ih,xk]
 exact key l []
theorem DM(l:List ag):(apx l).length=(dV l).length:=by rw[<- Jn,List.length_map]
def lR(w:aQ):Bool:=(w.zones.take 21).all (fun p=>fY p.zone&&decide (p.zone.apex.length<=100))&&(w.hosts.take 71).all (fun h=>decide (h.name.length<=100))&&decide ((w.zones.length:Int)<=20)&&decide ((w.hosts.length:Int)<=70)&&decide ((w.hints.length:Int)<=20)&&decide ((w.anchor.data.length:Int)<=20)
theorem J1{w:aQ}(h:lR w=true):jr w/\w.hosts.length<=70/\w.zones.length<=20/\w.hints.length<=20:=by
 unfold lR at h;simp only[Bool.and_eq_true,decide_eq_true_eq,List.all_eq_true]at h;obtain⟨⟨⟨⟨⟨h1,h2⟩,h3⟩,h4⟩,h5⟩,h6⟩:=h;have:w.zones.take 21=w.zones:=List.take_of_length_le (by omega);rw[this]at h1;exact⟨⟨by omega,by omega,by omega,fun p hp=>(h1 p hp).1⟩,by omega,by omega,by omega⟩
end NP
namespace Go.Proofs.YtcecidfnchcagaaGreatDoor
open NQ Go NP Go.RowKit
theorem Hr(l:List de)(hl:l.length<=100000):NQ.Fn cx 131 [.slice 3 (l.map jW)] (.d (.bool (iR l))) []:=by
 refine av aH mixed Tryz.func131 (by kernel_rfl) rfl (Nat.le_of_ble_eq_true rfl) ?_;conv=>whnf
 rw[List.length_map];refine ae (fun h=>?_) (fun h=>?_) <;> (rw[h];conv=>whnf)
 . refine af rfl ?_;show AV.d (D.bool _)=AV.d (D.bool _)
   congr 2
   unfold iR;simp at h;simp;omega
 have hle:iR l=dh [] l:=by unfold iR;simp at h;simp;omega
 rw[hle];refine⟨Nat,fun k=>⟨[(0, .d (.slice 3 (l.map jW))),(3, .d (.int .i64 k))],[]⟩,fun k=>k<=l.length/\dh ((l.take k).map (·.addr)) (l.drop k)=dh [] l,fun k=>l.length-k,
  ⟨0,⟨Nat.zero_le _,rfl⟩,ah.keep ⟨⟨rfl,rfl⟩,⟨rfl,rfl⟩,trivial⟩ trivial⟩,fun k ⟨hk,hinv⟩=>?_⟩
 conv=>whnf
 refine ae (fun h1=>?_) (fun h1=>?_) <;> (rw[h1];conv=>whnf)
 . have hlt:k<l.length:=by simpa using h1
   obtain⟨x,hx⟩:∃x,l[k]? =some x:=⟨_,List.getElem?_eq_getElem hlt⟩
   rw[wM hx]at hinv;refine⟨Int.natCast_nonneg k,jW x,az hx,?_⟩
   conv=>whnf
   (refine⟨_,_,mw x.name,?_⟩;conv=>whnf)
   cases hv:ai x.name with
   | false =>
    conv=>whnf
    refine af rfl ?_;rw[<- hinv,hv];rfl
   | true =>
    conv=>whnf
    (refine⟨_,_,Ai x.name hv,?_⟩;conv=>whnf)
    rw[hv,Lq hv]at hinv
    repeat' (first | (refine ae (fun h=>?_) (fun h=>?_) <;> (rw[h];conv=>whnf)) | fail)
    all_goals first
     | (refine af rfl ?_;show AV.d (D.bool false)=AV.d (D.bool _);rw[<- hinv];clear hinv hle;unfold dM;simp_all;done)
     | skip
    all_goals first
     | (refine af rfl ?_;show AV.d (D.bool false)=AV.d (D.bool _);rw[<- hinv];clear hinv hle;unfold dM;simp_all;omega)
     | skip
    refine⟨Nat,fun j=>⟨[(0, .d (.slice 3 (l.map jW))),(3, .d (.int .i64 k)),(4, .ptr 4 0),(6, .d (.int .i64 j))],[(4, .box ((jW x).map .d))]⟩,fun j=>j<=k/\((l.take j).map (·.addr)).contains x.addr=false,fun j=>k-j,
     ⟨0,⟨Nat.zero_le _,rfl⟩,ah.keep ⟨⟨rfl,rfl⟩,⟨rfl,rfl⟩,⟨rfl,rfl⟩,⟨rfl,rfl⟩,trivial⟩ ⟨⟨rfl,rfl⟩,trivial⟩⟩,fun j ⟨hj,hno⟩=>?_⟩
    conv=>whnf
    refine ae (fun h2=>?_) (fun h2=>?_) <;> (rw[h2];conv=>whnf)
    . have hjk:j<k:=by simpa using h2
      obtain⟨y,hy⟩:∃y,l[j]? =some y:=⟨_,List.getElem?_eq_getElem (by omega)⟩
      try (refine⟨(by kernel_rfl:aT _ _=true),?_⟩;conv=>whnf)
      refine⟨Int.natCast_nonneg j,jW y,az hy,?_⟩
      conv=>whnf
      refine ae (fun h3=>?_) (fun h3=>?_) <;> (rw[h3];conv=>whnf)
      . refine af rfl ?_;show AV.d (D.bool false)=AV.d (D.bool _)
        have:((l.take k).map (·.addr)).contains x.addr=true:=by
         rw[List.contains_iff_mem,List.mem_map];exact⟨y,List.mem_of_getElem? (i:=j) (by rw[List.getElem?_take,if_pos hjk];exact hy),by simpa using h3⟩
        rw[<- hinv,this];simp
      . refine⟨j+1,⟨hjk,?_⟩,by(show k-(j+1)<k-j;omega),ah.keep ⟨⟨rfl,rfl⟩,⟨rfl,rfl⟩,⟨rfl,rfl⟩,⟨aj (by omega),rfl⟩,trivial⟩ ⟨⟨rfl,rfl⟩,trivial⟩⟩;rw[aS hy,List.map_append];have h3' :(x.addr==y.addr)=false:=by
         rw[<- Bool.not_eq_true]at h3 ⊢;intro e;apply h3;simp at e ⊢;exact e.symm
        simp only[List.map_cons,List.map_nil];rw[Bool.eq_false_iff]at hno h3' ⊢;simp only[ne_eq,List.contains_iff_mem,List.mem_append,List.mem_singleton,beq_iff_eq]at hno h3' ⊢;rintro(e | e)
        . exact hno e
        . exact h3' e
    . obtain rfl:j=k:=by simp at h2;omega
      refine⟨j+1,⟨hlt,?_⟩,by(show l.length-(j+1)<l.length-j;omega),ah.keep ⟨⟨rfl,rfl⟩,⟨aj (by omega),rfl⟩,trivial⟩ trivial⟩;rw[aS hx,List.map_append, <- hinv,hno];clear hinv hle;show _=(_&&_&&_)
      unfold dM
      simp_all
      try omega
 . obtain rfl:k=l.length:=by simp at h1;omega
   refine af rfl ?_;rw[<- hinv,List.drop_length];rfl
theorem IB(s:eZ)(hints:List Int)(hl:hints.length<=100000):NQ.Fn cx 132 [.agg (jm s), .slice 1 (hints.map cG)] (.d (.bool (mg s hints))) []:=by
 refine av aH mixed Tryz.func132 (by kernel_rfl) rfl (Nat.le_of_ble_eq_true rfl) ?_;conv=>whnf
 refine⟨Nat,fun k=>⟨[(1, .d (.slice 1 (hints.map cG))),(2, .ptr 2 0),(5, .d (.int .i64 k))],[(2, .box ((jm s).map .d))]⟩,fun k=>k<=hints.length/\(hints.take k).all dM=true,fun k=>hints.length-k,
  ⟨0,⟨Nat.zero_le _,rfl⟩,ah.keep ⟨⟨rfl,rfl⟩,⟨rfl,rfl⟩,⟨rfl,rfl⟩,trivial⟩ ⟨⟨rfl,rfl⟩,trivial⟩⟩,fun k ⟨hk,hall⟩=>?_⟩
 conv=>whnf
 refine ae (fun h1=>?_) (fun h1=>?_) <;> (rw[h1];conv=>whnf)
 . have hlt:k<hints.length:=by simpa using h1
   obtain⟨x,hx⟩:∃x,hints[k]? =some x:=⟨_,List.getElem?_eq_getElem hlt⟩
   refine⟨Int.natCast_nonneg k,cG x,az hx,?_⟩
   conv=>whnf
   have no:dM x=false->mg s hints=false:=fun hb=>by
    have:hints.all dM=false:=by
     rw[<- Bool.not_eq_true,List.all_eq_true];intro hh;rw[hh x (List.mem_of_getElem? hx)]at hb;cases hb
    unfold mg;rw[this];simp
   refine ae (fun h2=>?_) (fun h2=>?_) <;> (rw[h2];conv=>whnf)
   . refine af rfl ?_;rw[no (by unfold dM;simp at h2 ⊢;omega)];rfl
   . refine⟨Int.natCast_nonneg k,cG x,az hx,?_⟩
     conv=>whnf
     refine ae (fun h3=>?_) (fun h3=>?_) <;> (rw[h3];conv=>whnf)
     . refine af rfl ?_;rw[no (by unfold dM;simp at h2 h3 ⊢;omega)];rfl
     . refine⟨k+1,⟨hlt,?_⟩,by(show hints.length-(k+1)<hints.length-k;omega),ah.keep ⟨⟨rfl,rfl⟩,⟨rfl,rfl⟩,⟨aj (by omega),rfl⟩,trivial⟩ ⟨⟨rfl,rfl⟩,trivial⟩⟩;rw[aS hx,List.all_append,hall];simp at h2 h3;simp[dM];omega
 . obtain rfl:k=hints.length:=by simp at h1;omega
   rw[List.take_length]at hall
   (refine⟨_,_,B3 s,?_⟩;conv=>whnf)
   repeat' (first | (refine ae (fun h=>?_) (fun h=>?_) <;> (rw[h];conv=>whnf)) | fail)
   all_goals (refine af rfl ?_;show AV.d (D.bool _)=AV.d (D.bool _);congr 2;(try simp only[List.length_map]at *);unfold mg;rw[hall];simp only[*, if_true,if_false,Bool.false_eq_true,Bool.not_true,Bool.not_false,Bool.not_not,Bool.true_or,Bool.or_true,Bool.false_or,Bool.or_false,Bool.and_true,Bool.true_and,Bool.false_and,Bool.and_false])
theorem EV(l:List ag)(hl:l.length<=100000):NQ.Fn cx 133 [.slice 3 (l.map bx)] (.d (.slice 1 ((dV l).map ao))) []:=by
 refine av aH mixed Tryz.func133 (by kernel_rfl) rfl (Nat.le_of_ble_eq_true rfl) ?_;conv=>whnf
 refine⟨Nat,fun k=>⟨[(0, .d (.slice 3 (l.map bx))),(3, .own 100),(4, .d (.int .i64 k))],[(100, .row 9 1 ((dV (l.take k)).map ao))]⟩,fun k=>k<=l.length,fun k=>l.length-k,
  ⟨0,Nat.zero_le _,(ah.j6 3 100 1 9 1 rfl rfl (by decide)).trans (ah.keep ⟨⟨rfl,rfl⟩,⟨rfl,rfl⟩,⟨rfl,rfl⟩,trivial⟩ ⟨⟨rfl,rfl⟩,trivial⟩)⟩,fun k hk=>?_⟩
 conv=>whnf
 refine ae (fun h1=>?_) (fun h1=>?_) <;> (rw[h1];conv=>whnf)
 . have hlt:k<l.length:=by simpa using h1
   obtain⟨x,hx⟩:∃x,l[k]? =some x:=⟨_,List.getElem?_eq_getElem hlt⟩
   have hal:(dV (l.take k)).length<=k:=by have:=EU (l.take k);rw[List.length_take]at this;omega
   generalize hA:dV (l.take k)=A at *
   refine⟨Nat×Bool,fun j=>⟨[(0, .d (.slice 3 (l.map bx))),(3, .own 100),(4, .d (.int .i64 k)),(5, .d (.bool j.2)),(6, .d (.int .i64 j.1))],[(100, .row 9 1 (A.map ao))]⟩,fun j=>j.1<=A.length/\j.2=(A.take j.1).contains x.zone.apex,fun j=>A.length-j.1,
    ⟨(0,false),⟨Nat.zero_le _,rfl⟩,ah.keep ⟨⟨rfl,rfl⟩,⟨rfl,rfl⟩,⟨rfl,rfl⟩,⟨rfl,rfl⟩,⟨rfl,rfl⟩,trivial⟩ ⟨⟨by rw[<- hA];rfl,rfl⟩,trivial⟩⟩,fun⟨j,f⟩ ⟨hj,hf⟩=>?_⟩
   dsimp only at hj hf ⊢
   conv=>whnf
   refine ae (fun h2=>?_) (fun h2=>?_) <;> (rw[h2];conv=>whnf)
   . have hjl:j<A.length:=by simpa using h2
     obtain⟨y,hy⟩:∃y,A[j]? =some y:=⟨_,List.getElem?_eq_getElem hjl⟩
     (refine⟨(by kernel_rfl:aT _ _=true),?_⟩;conv=>whnf)
     refine ae (fun h3=>?_) (fun h3=>?_) <;> (rw[h3];conv=>whnf)
     . refine⟨(j+1,true),⟨hjl,?_⟩,by(show A.length-(j+1)<A.length-j;omega),ah.keep ⟨⟨rfl,rfl⟩,⟨rfl,rfl⟩,⟨rfl,rfl⟩,⟨rfl,rfl⟩,⟨aj (by omega),rfl⟩,trivial⟩ ⟨⟨rfl,rfl⟩,trivial⟩⟩;dsimp only;rw[aS hy,List.contains_append, <- hf,h3];rfl
     . refine⟨Int.natCast_nonneg j,by(show j<(A.map ao).length;rw[List.length_map];exact hjl),?_⟩
       conv=>whnf
       refine⟨ao y,az hy,?_⟩
       conv=>whnf
       refine⟨Int.natCast_nonneg k,bx x,az hx,?_⟩
       conv=>whnf
       refine⟨(j+1,y==x.zone.apex),⟨hjl,?_⟩,by(show A.length-(j+1)<A.length-j;omega),ah.keep ⟨⟨rfl,rfl⟩,⟨rfl,rfl⟩,⟨rfl,rfl⟩,⟨rfl,rfl⟩,⟨aj (by omega),rfl⟩,trivial⟩ ⟨⟨rfl,rfl⟩,trivial⟩⟩;dsimp only;rw[aS hy,List.contains_append, <- hf,h3,Bool.false_or];simp only[List.contains_cons,List.contains_nil,Bool.or_false];exact Bool.eq_iff_iff.2 ⟨fun h=>by simp at h ⊢;exact h.symm,fun h=>by simp at h ⊢;exact h.symm⟩
   . obtain rfl:j=A.length:=by simp at h2;omega
     rw[List.take_length]at hf;refine ae (fun h3=>?_) (fun h3=>?_) <;> (rw[h3];conv=>whnf)
     . have hc:A.contains x.zone.apex=false:=by rw[<- hf];simpa using h3
       refine⟨Int.natCast_nonneg k,bx x,az hx,?_⟩
       conv=>whnf
       refine⟨by(show(A.map ao).length+1<=_);simp;omega,by(show((A.map ao).length+1)*16<=_);simp;omega,?_⟩
       conv=>whnf
       refine⟨k+1,hlt,by(show l.length-(k+1)<l.length-k;omega),ah.keep ⟨⟨rfl,rfl⟩,⟨rfl,rfl⟩,⟨aj (by omega),rfl⟩,trivial⟩ ⟨⟨?_,rfl⟩,trivial⟩⟩;rw[aS hx,ue,hA,if_neg (by rw[hc];simp),List.map_append];rfl
     . have hc:A.contains x.zone.apex=true:=by rw[<- hf];simpa using h3
       refine⟨k+1,hlt,by(show l.length-(k+1)<l.length-k;omega),ah.keep ⟨⟨rfl,rfl⟩,⟨rfl,rfl⟩,⟨aj (by omega),rfl⟩,trivial⟩ ⟨⟨?_,rfl⟩,trivial⟩⟩;rw[aS hx,ue,hA,if_pos hc];rfl
 . obtain rfl:k=l.length:=by simp at h1;omega
   refine af rfl ?_;rw[List.take_length];rfl
set_option maxHeartbeats 2000000 in
theorem I4(w:aQ)(h1:w.hosts.length<=100000)(h2:w.zones.length<=100000)(h3:w.hints.length<=100000)(h4:∀p∈w.zones,p.zone.sets.length<=100000):NQ.Fn cx 70 [.agg (bp w)] (.d (.bool (aX w))) []:=by
 refine av aH mixed Tryz.func70 (by kernel_rfl) rfl (Nat.le_of_ble_eq_true rfl) ?_;conv=>whnf
 (refine⟨_,_,Hr w.hosts h1,?_⟩;conv=>whnf)
 cases e1:iR w.hosts with
 | false =>
  conv=>whnf
  refine af rfl ?_;have:aX w=false:=by unfold aX;rw[e1];rfl
  rw[this];rfl
 | true =>
 conv=>whnf
 refine ae (fun g0=>?_) (fun g0=>?_) <;> (rw[g0];conv=>whnf)
 . refine af rfl ?_;have:aX w=false:=by
    have e3:decide ((w.zones.length:Int)<=4000)=false:=by
     have:=of_decide_eq_true g0;rw[List.length_map]at this;exact decide_eq_false (by omega)
    unfold aX gX;rw[e3];simp
   rw[this];rfl
 (refine⟨_,_,IB w.anchor w.hints h3,?_⟩;conv=>whnf)
 cases e2:mg w.anchor w.hints with
 | false =>
  conv=>whnf
  refine af rfl ?_;have:aX w=false:=by unfold aX;rw[e2];simp
  rw[this];rfl
 | true =>
 conv=>whnf
 have hyes:aX w=(cJ w.hosts.length [] w.zones&&decide (((apx w.zones).length:Int)<=500)):=by
  have e3:(w.zones.length:Int)<=4000:=by
   have:=of_decide_eq_false g0;rw[List.length_map]at this;omega
  unfold aX gX;rw[e1,e2,decide_eq_true e3];simp
 refine⟨Nat,fun k=>⟨[(1, .ptr 1 0),(3, .d (.int .i64 k))],[(1, .box ((bp w).map .d))]⟩,fun k=>k<=w.zones.length/\cJ w.hosts.length (w.zones.take k) (w.zones.drop k)=cJ w.hosts.length [] w.zones,fun k=>w.zones.length-k,
  ⟨0,⟨Nat.zero_le _,rfl⟩,ah.keep ⟨⟨rfl,rfl⟩,⟨rfl,rfl⟩,trivial⟩ ⟨⟨rfl,rfl⟩,trivial⟩⟩,fun k ⟨hk,hinv⟩=>?_⟩
 conv=>whnf
 refine ae (fun g1=>?_) (fun g1=>?_) <;> (rw[g1];conv=>whnf)
 . have hlt:k<w.zones.length:=by simpa using g1
   obtain⟨x,hx⟩:∃x,w.zones[k]? =some x:=⟨_,List.getElem?_eq_getElem hlt⟩
   rw[uk hx]at hinv;refine⟨Int.natCast_nonneg k,bx x,az hx,?_⟩
   conv=>whnf
   (refine⟨_,_,zf x.zone (h4 x (List.mem_of_getElem? hx)),?_⟩;conv=>whnf)
   have bad:(decide (x.host<0)||decide (x.host>=(w.hosts.length:Int))||(w.zones.take k).any (cL x)|| !aV x.zone)=true->aX w=false:=fun hb=>by
    rw[hyes, <- hinv,hb];rfl
   refine ae (fun g2=>?_) (fun g2=>?_) <;> (rw[g2];conv=>whnf)
   . refine af rfl ?_;rw[bad (by simp_all)];rfl
   refine ae (fun g3=>?_) (fun g3=>?_) <;> (rw[g3];conv=>whnf)
   . refine af rfl ?_;rw[bad (by simp_all)];rfl
   refine ae (fun g4=>?_) (fun g4=>?_) <;> (rw[g4];conv=>whnf)
   . refine af rfl ?_;rw[bad (by(try simp only[List.length_map]at *);simp_all)];rfl
   refine⟨Nat,fun j=>⟨[(1, .ptr 1 0),(3, .d (.int .i64 k)),(4, .ptr 4 0),(6, .d (.int .i64 j))],[(1, .box ((bp w).map .d)),(4, .box ((bx x).map .d))]⟩,fun j=>j<=k/\(w.zones.take j).any (cL x)=false,fun j=>k-j,
    ⟨0,⟨Nat.zero_le _,rfl⟩,ah.keep ⟨⟨rfl,rfl⟩,⟨rfl,rfl⟩,⟨rfl,rfl⟩,⟨rfl,rfl⟩,trivial⟩ ⟨⟨rfl,rfl⟩,⟨rfl,rfl⟩,trivial⟩⟩,fun j ⟨hj,hno⟩=>?_⟩
   conv=>whnf
   refine ae (fun g5=>?_) (fun g5=>?_) <;> (rw[g5];conv=>whnf)
   . have hjk:j<k:=by simpa using g5
     obtain⟨y,hy⟩:∃y,w.zones[j]? =some y:=⟨_,List.getElem?_eq_getElem (by omega)⟩
     (refine⟨(by kernel_rfl:aT _ _=true),?_⟩;conv=>whnf)
     refine⟨Int.natCast_nonneg j,bx y,az hy,?_⟩
     conv=>whnf
     have next:cL x y=false->j+1<=k/\(w.zones.take (j+1)).any (cL x)=false:=fun hs=>⟨hjk,by rw[aS hy,List.any_append,hno];simp[hs]⟩
     refine ae (fun g6=>?_) (fun g6=>?_) <;> (rw[g6];conv=>whnf)
     . refine⟨Int.natCast_nonneg j,bx y,az hy,?_⟩
       conv=>whnf
       refine ae (fun g7=>?_) (fun g7=>?_) <;> (rw[g7];conv=>whnf)
       . refine af rfl ?_;have:(w.zones.take k).any (cL x)=true:=by
          rw[List.any_eq_true];refine⟨y,List.mem_of_getElem? (i:=j) (by rw[List.getElem?_take,if_pos hjk];exact hy),?_⟩;simp at g6 g7;simp[cL,g6,g7]
         rw[bad (by rw[this];simp)];rfl
       . exact⟨j+1,next (by unfold cL;simp at g7;rw[Bool.and_eq_false_iff];right;simp;exact fun e=>g7 e.symm),by(show k-(j+1)<k-j;omega),ah.keep ⟨⟨rfl,rfl⟩,⟨rfl,rfl⟩,⟨rfl,rfl⟩,⟨aj (by omega),rfl⟩,trivial⟩ ⟨⟨rfl,rfl⟩,⟨rfl,rfl⟩,trivial⟩⟩
     . exact⟨j+1,next (by unfold cL;simp at g6;rw[Bool.and_eq_false_iff];left;simp;exact fun e=>g6 e.symm),by(show k-(j+1)<k-j;omega),ah.keep ⟨⟨rfl,rfl⟩,⟨rfl,rfl⟩,⟨rfl,rfl⟩,⟨aj (by omega),rfl⟩,trivial⟩ ⟨⟨rfl,rfl⟩,⟨rfl,rfl⟩,trivial⟩⟩
   . obtain rfl:j=k:=by simp at g5;omega
     refine⟨j+1,⟨hlt,?_⟩,by(show w.zones.length-(j+1)<w.zones.length-j;omega),ah.keep ⟨⟨rfl,rfl⟩,⟨aj (by omega),rfl⟩,trivial⟩ ⟨⟨rfl,rfl⟩,trivial⟩⟩;rw[aS hx, <- hinv];clear hinv hyes bad;have e1:decide (x.host<0)=false:=g3;have e2:decide (x.host>=(w.hosts.length:Int))=false:=by(try simp only[List.length_map]at g4);exact g4
     have e3:(!aV x.zone)=false:=g2;rw[e1,e2,e3,hno];simp
 . obtain rfl:k=w.zones.length:=by simp at g1;omega
   (refine⟨_,_,EV w.zones h2,?_⟩;conv=>whnf)
   refine af rfl ?_;show AV.d (D.bool _)=AV.d (D.bool _)
   congr 2
   rw[List.drop_length]at hinv;rw[hyes, <- hinv,DM];simp[cJ]
def Fs:Nat->List Nat:=fun | 7=>[55555] | 12=>[55555] | _=>[]
theorem yG(w:aQ)(hz:(w.zones.take 21).all (fun p=>fY p.zone&&decide (p.zone.apex.length<=100))=true)(hh:(w.hosts.take 71).all (fun h=>decide (h.name.length<=100))=true)(st:St)(hs:ah cx st ⟨[(1, .ptr 1 0)],[(1, .box ((bp w).map .d))]⟩) :
 vc cx Tryz.f16.ntmps Fs (tX 3 ((Tryz.f16.body).getD .skip)) (fnQ cx Tryz.f16.results.toList (.d (.bool (lR w))) []) st:=by
 conv=>whnf
 refine⟨_,hs,?_⟩
 conv=>whnf
 have e:lR w=(decide ((w.zones.length:Int)<=20)&&decide ((w.hosts.length:Int)<=70)&&decide ((w.hints.length:Int)<=20)&&decide ((w.anchor.data.length:Int)<=20)):=by
  unfold lR;rw[hz,hh];rfl
 repeat' (first | (refine ae (fun h=>?_) (fun h=>?_) <;> (rw[h];conv=>whnf)) | fail)
 all_goals (refine af rfl ?_;show AV.d (D.bool _)=AV.d (D.bool _);congr 2;(try simp only[List.length_map]at *);rw[e];simp only[*, if_true,if_false,Bool.false_eq_true,Bool.not_true,Bool.not_false,Bool.not_not,Bool.true_or,Bool.or_true,Bool.false_or,Bool.or_false,Bool.and_true,Bool.true_and,Bool.false_and,Bool.and_false])
theorem AX(w:aQ)(hz:(w.zones.take 21).all (fun p=>fY p.zone&&decide (p.zone.apex.length<=100))=true)(st:St)(hs:ah cx st ⟨[(1, .ptr 1 0)],[(1, .box ((bp w).map .d))]⟩) :
 vc cx Tryz.f16.ntmps Fs (tX 2 ((Tryz.f16.body).getD .skip)) (fnQ cx Tryz.f16.results.toList (.d (.bool (lR w))) []) st:=by
 conv=>whnf
 refine⟨_,hs,?_⟩
 conv=>whnf
 refine⟨Nat,fun k=>⟨[(1, .ptr 1 0),(5, .d (.int .i64 k))],[(1, .box ((bp w).map .d))]⟩,fun k=>k<=w.hosts.length/\k<=71/\(w.hosts.take k).all (fun h=>decide (h.name.length<=100))=true,fun k=>w.hosts.length-k,
  ⟨0,⟨Nat.zero_le _,Nat.zero_le _,rfl⟩,ah.keep ⟨⟨rfl,rfl⟩,⟨rfl,rfl⟩,trivial⟩ ⟨⟨rfl,rfl⟩,trivial⟩⟩,fun k ⟨hk,hk2,hall⟩=>?_⟩
 conv=>whnf
 refine ae (fun g1=>?_) (fun g1=>?_) <;> (rw[g1];conv=>whnf)
 . have hlt:k<w.hosts.length:=by simpa using g1
   obtain⟨x,hx⟩:∃x,w.hosts[k]? =some x:=⟨_,List.getElem?_eq_getElem hlt⟩
   refine ae (fun g2=>?_) (fun g2=>?_) <;> (rw[g2];conv=>whnf)
   . have hk3:k<71:=by simp at g2;omega
     refine⟨Int.natCast_nonneg k,jW x,az hx,?_⟩
     conv=>whnf
     refine ae (fun g4=>?_) (fun g4=>?_) <;> (rw[g4];conv=>whnf)
     . refine af rfl ?_;have:(w.hosts.take 71).all (fun h=>decide (h.name.length<=100))=false:=by
        rw[<- Bool.not_eq_true,List.all_eq_true];intro h;have:=h x (List.mem_of_getElem? (i:=k) (by rw[List.getElem?_take,if_pos hk3];exact hx));simp at g4 this;omega
       have:lR w=false:=by unfold lR;rw[this];simp
       rw[this];rfl
     . refine⟨k+1,⟨hlt,by omega,?_⟩,by(show w.hosts.length-(k+1)<w.hosts.length-k;omega),ah.keep ⟨⟨rfl,rfl⟩,⟨aj (by omega),rfl⟩,trivial⟩ ⟨⟨rfl,rfl⟩,trivial⟩⟩;rw[aS hx,List.all_append,hall];simp at g4;simp;omega
   . have:k=71:=by simp at g2;omega
     subst this;exact yG w hz hall _ (ah.keep ⟨⟨rfl,rfl⟩,trivial⟩ ⟨⟨rfl,rfl⟩,trivial⟩)
 . obtain rfl:k=w.hosts.length:=by simp at g1;omega
   exact yG w hz (by rw[List.take_length]at hall;rw[List.take_of_length_le hk2];exact hall) _ (ah.keep ⟨⟨rfl,rfl⟩,trivial⟩ ⟨⟨rfl,rfl⟩,trivial⟩)
theorem L5(w:aQ):NQ.Fn cx 16 [.agg (bp w)] (.d (.bool (lR w))) []:=by
 refine cw Fs aH mixed Tryz.func16 (by kernel_rfl) rfl (Nat.le_of_ble_eq_true rfl) ?_
 conv=>whnf
 refine⟨Nat,fun k=>⟨[(1, .ptr 1 0),(3, .d (.int .i64 k))],[(1, .box ((bp w).map .d))]⟩,fun k=>k<=w.zones.length/\k<=21/\(w.zones.take k).all (fun p=>fY p.zone&&decide (p.zone.apex.length<=100))=true,fun k=>w.zones.length-k,
  ⟨0,⟨Nat.zero_le _,Nat.zero_le _,rfl⟩,ah.keep ⟨⟨rfl,rfl⟩,⟨rfl,rfl⟩,trivial⟩ ⟨⟨rfl,rfl⟩,trivial⟩⟩,fun k ⟨hk,hk2,hall⟩=>?_⟩
 conv=>whnf
 have no:∀p,w.zones[k]? =some p->k<21->(fY p.zone&&decide (p.zone.apex.length<=100))=false->lR w=false:=fun p hp hk hb=>by
  have:(w.zones.take 21).all (fun p=>fY p.zone&&decide (p.zone.apex.length<=100))=false:=by
   rw[<- Bool.not_eq_true,List.all_eq_true];intro h;rw[h p (List.mem_of_getElem? (i:=k) (by rw[List.getElem?_take,if_pos hk];exact hp))]at hb;cases hb
  unfold lR;rw[this];simp
 refine ae (fun g1=>?_) (fun g1=>?_) <;> (rw[g1];conv=>whnf)
 . have hlt:k<w.zones.length:=by simpa using g1
   obtain⟨x,hx⟩:∃x,w.zones[k]? =some x:=⟨_,List.getElem?_eq_getElem hlt⟩
   refine ae (fun g2=>?_) (fun g2=>?_) <;> (rw[g2];conv=>whnf)
   . have hk3:k<21:=by simp at g2;omega
     refine⟨Int.natCast_nonneg k,bx x,az hx,?_⟩
     conv=>whnf
     (refine⟨_,_,Nc x.zone,?_⟩;conv=>whnf)
     refine ae (fun g3=>?_) (fun g3=>?_) <;> (rw[g3];conv=>whnf)
     . refine af rfl ?_;rw[no x hx hk3 (by simp_all)];rfl
     refine⟨Int.natCast_nonneg k,bx x,az hx,?_⟩
     conv=>whnf
     refine ae (fun g4=>?_) (fun g4=>?_) <;> (rw[g4];conv=>whnf)
     . refine af rfl ?_;rw[no x hx hk3 (by simp at g4;simp;omega)];rfl
     . refine⟨k+1,⟨hlt,by omega,?_⟩,by(show w.zones.length-(k+1)<w.zones.length-k;omega),ah.keep ⟨⟨rfl,rfl⟩,⟨aj (by omega),rfl⟩,trivial⟩ ⟨⟨rfl,rfl⟩,trivial⟩⟩;rw[aS hx,List.all_append,hall];simp at g3 g4;simp[g3];omega
   . have:k=21:=by simp at g2;omega
     subst this;exact AX w hall _ (ah.keep ⟨⟨rfl,rfl⟩,trivial⟩ ⟨⟨rfl,rfl⟩,trivial⟩)
 . obtain rfl:k=w.zones.length:=by simp at g1;omega
   exact AX w (by rw[List.take_length]at hall;rw[List.take_of_length_le hk2];exact hall) _ (ah.keep ⟨⟨rfl,rfl⟩,trivial⟩ ⟨⟨rfl,rfl⟩,trivial⟩)
end Go.Proofs.YtcecidfnchcagaaGreatDoor
namespace NP
open NQ Go
theorem Dk{p q:ag}(hp:aV p.zone=true)(hq:aV q.zone=true):cC p q=(decide (iF p.zone>iF q.zone)||(decide (iF p.zone=iF q.zone)&&decide (p.host<q.host))):=by
 unfold cC cP;rw[hp,hq];rfl
theorem ij(zs : List ag)(q : aI)(f : Nat)(a : Bs) : fR zs (bC zs) q (f + 1) a = match aN zs a with
  | none=>(jk,false)
  | some x=>if ((aY x.2.zone q).1.kind != 4)=true then((aY x.2.zone q).1,true)else fR zs (bC zs) q f (aY x.2.zone q).1.cut:=by
 rw[fR,o7];cases h:aN zs a with
 | none=>rfl
 | some x =>
  simp only[Option.map_some];rw[vj zs a x h]
end NP
namespace Go.Proofs.YtcecidfnchcagaaGreatDoor
open NQ Go NP Go.RowKit
theorem JI(zs:List ag)(a:Bs)(hz:∀p∈zs,aV p.zone=true)(hl:zs.length<=100000):NQ.Fn cx 25 [.slice 3 (zs.map bx), .str a] (.d (.int .i64 (Nx (aN zs a)))) []:=by
 refine av aH mixed Tryz.func25 (by kernel_rfl) rfl (Nat.le_of_ble_eq_true rfl) ?_;conv=>whnf
 refine⟨Nat×Option (Nat×ag),fun x=>⟨[(0, .d (.slice 3 (zs.map bx))),(1, .d (.str a)),(5, .d (.int .i64 (Nx x.2))),(6, .d (.int .i64 x.1))],[]⟩,
  fun x=>x.1<=zs.length/\kZ zs x.2/\gE (fun p=>p.zone.apex==a) cC x.1 (zs.drop x.1) x.2=aN zs a,fun x=>zs.length-x.1,
  ⟨(0,none),⟨Nat.zero_le _,(fun x hx=>by cases hx),rfl⟩,ah.keep ⟨⟨rfl,rfl⟩,⟨rfl,rfl⟩,⟨rfl,rfl⟩,⟨rfl,rfl⟩,trivial⟩ trivial⟩,fun⟨k,b⟩ ⟨hk,hb,hinv⟩=>?_⟩
 dsimp only at hk hb hinv ⊢
 conv=>whnf
 refine ae (fun h1=>?_) (fun h1=>?_) <;> (rw[h1];conv=>whnf)
 . have hlt:k<zs.length:=by simpa using h1
   obtain⟨p,hp⟩:∃p,zs[k]? =some p:=⟨_,List.getElem?_eq_getElem hlt⟩
   have hpv:=hz p (List.mem_of_getElem? hp);rw[GN hp]at hinv;have next:∀b',b' =bR (fun p=>p.zone.apex==a) cC k p b->(k+1<=zs.length/\kZ zs b' /\gE (fun p=>p.zone.apex==a) cC (k+1) (zs.drop (k+1)) b' =aN zs a):=fun b' e=>by
    rw[e];exact⟨hlt,hb.step hp,hinv⟩
   refine⟨Int.natCast_nonneg k,bx p,az hp,?_⟩
   conv=>whnf
   refine ae (fun h2=>?_) (fun h2=>?_) <;> (rw[h2];conv=>whnf)
   . exact⟨(k+1,b),next _ (by unfold bR;rw[if_neg (by simpa using h2)]),by(show zs.length-(k+1)<zs.length-k;omega),ah.keep ⟨⟨rfl,rfl⟩,⟨rfl,rfl⟩,⟨rfl,rfl⟩,⟨aj (by omega),rfl⟩,trivial⟩ trivial⟩
   have ha:(p.zone.apex==a)=true:=by simpa using h2
   cases b with
   | none =>
    conv=>whnf
    exact⟨(k+1,some (k,p)),next _ (by unfold bR;rw[if_pos ha]),by(show zs.length-(k+1)<zs.length-k;omega),ah.keep ⟨⟨rfl,rfl⟩,⟨rfl,rfl⟩,⟨rfl,rfl⟩,⟨aj (by omega),rfl⟩,trivial⟩ trivial⟩
   | some x =>
    have hx:=hb x rfl;have hxv:=hz x.2 (List.mem_of_getElem? hx);have hnew:=Dk hpv hxv
    conv=>whnf
    refine⟨Int.natCast_nonneg k,bx p,az hp,?_⟩
    conv=>whnf
    (refine⟨_,_,uT p.zone hpv,?_⟩;conv=>whnf)
    refine⟨Int.natCast_nonneg x.1,bx x.2,az hx,?_⟩
    conv=>whnf
    (refine⟨_,_,uT x.2.zone hxv,?_⟩;conv=>whnf)
    (refine⟨(by kernel_rfl:aT _ _=true),?_⟩;conv=>whnf)
    repeat' (first
     | (refine ae (fun h=>?_) (fun h=>?_) <;> (rw[h];conv=>whnf))
     | (refine⟨Int.natCast_nonneg k,bx p,az hp,?_⟩;conv=>whnf)
     | (refine⟨Int.natCast_nonneg x.1,bx x.2,az hx,?_⟩;conv=>whnf)
     | fail)
    all_goals first
     | (refine⟨(k+1,some (k,p)),next _ (by unfold bR;rw[if_pos ha];dsimp only;rw[if_pos (by rw[hnew];simp_all;done)]),by(show zs.length-(k+1)<zs.length-k;omega),ah.keep ⟨⟨rfl,rfl⟩,⟨rfl,rfl⟩,⟨rfl,rfl⟩,⟨aj (by omega),rfl⟩,trivial⟩ trivial⟩;done)
     | (refine⟨(k+1,some x),next _ (by unfold bR;rw[if_pos ha];dsimp only;rw[if_neg (by rw[hnew];simp_all;done)]),by(show zs.length-(k+1)<zs.length-k;omega),ah.keep ⟨⟨rfl,rfl⟩,⟨rfl,rfl⟩,⟨rfl,rfl⟩,⟨aj (by omega),rfl⟩,trivial⟩ trivial⟩;done)
     | (refine⟨(k+1,some x),next _ (by unfold bR;rw[if_pos ha];dsimp only;rw[if_neg (by rw[hnew];simp_all;omega)]),by(show zs.length-(k+1)<zs.length-k;omega),ah.keep ⟨⟨rfl,rfl⟩,⟨rfl,rfl⟩,⟨rfl,rfl⟩,⟨aj (by omega),rfl⟩,trivial⟩ trivial⟩;done)
 . obtain rfl:k=zs.length:=by simp at h1;omega
   refine af rfl ?_;rw[<- hinv,List.drop_length];rfl
theorem o9(w:aQ)(hF:jr w):NQ.Fn cx 54 [.agg (bp w)] (.d (.bool (aX w))) []:=zt w (by have:=hF.hosts;omega) (by have:=hF.zones;omega) (by have:=hF.hints;omega)
theorem Gs(w:aQ)(hF:jr w):NQ.Fn cx 70 [.agg (bp w)] (.d (.bool (aX w))) []:=I4 w (by have:=hF.hosts;omega) (by have:=hF.zones;omega) (by have:=hF.hints;omega) (fun p hp=>by have:=(fm (hF.few p hp)).1;omega)
end Go.Proofs.YtcecidfnchcagaaGreatDoor
namespace NP
open NQ Go
theorem IW{w:aQ}{q:aI}(hv:aX w=true)(hq:bu q=true):kx w q=jf w.zones 9 q []:=by unfold kx;rw[if_neg (by rw[hv,hq];simp)]
end NP
namespace Go.Proofs.YtcecidfnchcagaaGreatDoor
open NQ Go NP Go.RowKit
end Go.Proofs.YtcecidfnchcagaaGreatDoor
namespace NP
open NQ Go
theorem rW{n:Nat}:∀(l seen:List ag),cJ n seen l=true ↔ ((∀p∈l,((decide (p.host<0)||decide (p.host>=(n:Int))|| !aV p.zone)=false)/\seen.any (cL p)=false)/\l.Pairwise (fun x p=>cL p x=false))
 | [],seen=>by simp[cJ]
 | x::t,seen=>by
  rw[cJ,Bool.and_eq_true,rW t,List.pairwise_cons];simp only[List.any_append,List.any_cons,List.any_nil,Bool.or_false,Bool.not_eq_true',List.mem_cons,forall_eq_or_imp];constructor
  . rintro⟨h1,h2,h3⟩;simp only[Bool.or_eq_false_iff]at h1 h2 ⊢;exact⟨⟨⟨⟨h1.1.1,h1.2⟩,h1.1.2⟩,fun p hp=>⟨(h2 p hp).1,(h2 p hp).2.1⟩⟩,fun p hp=>(h2 p hp).2.2,h3⟩
  . rintro⟨⟨h1,h2⟩,h3,h4⟩;simp only[Bool.or_eq_false_iff]at h1 h2 ⊢;exact⟨⟨⟨h1.1.1,h1.2⟩,h1.1.2⟩,fun p hp=>⟨(h2 p hp).1,(h2 p hp).2,h3 p hp⟩,h4⟩
theorem mH{α:Type}[BEq α][LawfulBEq α]:∀{a b:List α},a.Nodup->(∀x∈a,x∈b)->a.length<=b.length
 | [],b,_,_=>Nat.zero_le _
 | x::t,b,hn,hs=>by
  have hx:=hs x (List.mem_cons_self ..);rw[List.nodup_cons]at hn;have:=mH (b:=b.erase x) hn.2 fun y hy=>(List.mem_erase_of_ne (fun(e:y=x)=>hn.1 (e ▸ hy))).2 (hs y (List.mem_cons_of_mem _ hy))
  rw[List.length_erase_of_mem hx]at this;have h0:0<b.length:=List.length_pos_of_mem hx;rw[List.length_cons];omega
theorem pc(l:List ag):(dV l).Nodup/\ ∀a,a∈dV l ↔ ∃p∈l,p.zone.apex=a:=by
 have key:∀(l:List ag) (out:List Bs),out.Nodup->(l.foldl (fun out p=>if out.contains p.zone.apex=true then out else out++[p.zone.apex]) out).Nodup/\ ∀a,a∈l.foldl (fun out p=>if out.contains p.zone.apex=true then out else out++[p.zone.apex]) out ↔ (a∈out\/ ∃p∈l,p.zone.apex=a):=fun l=>by
  induction l with
  | nil=>intro out h;exact⟨h,fun a=>by simp⟩
  | cons p t ih =>
   intro out h;simp only[List.foldl_cons];by_cases hc:out.contains p.zone.apex=true
   . rw[if_pos hc];obtain⟨h1,h2⟩:=ih out h;refine⟨h1,fun a=>?_⟩;rw[h2];have hm:p.zone.apex∈out:=List.contains_iff_mem.1 hc;constructor
     . rintro(h | ⟨q,hq,e⟩)
       . exact .inl h
       . exact .inr ⟨q,List.mem_cons_of_mem _ hq,e⟩
     . rintro(h | ⟨q,hq,e⟩)
       . exact .inl h
       . rcases List.mem_cons.1 hq with rfl | hq
         . exact .inl (e ▸ hm)
         . exact .inr ⟨q,hq,e⟩
   . rw[if_neg hc];have hm:p.zone.apex ∉ out:=fun e=>hc (List.contains_iff_mem.2 e)
     obtain⟨h1,h2⟩:=ih (out++[p.zone.apex]) (by
      rw[List.nodup_append];exact⟨h,by simp,fun a ha b hb=>by rw[List.mem_singleton]at hb;subst hb;exact fun e=>hm (e ▸ ha)⟩)
     refine⟨h1,fun a=>?_⟩;rw[h2];constructor
     . rintro(h | ⟨q,hq,e⟩)
       . rcases List.mem_append.1 h with h | h
         . exact .inl h
         . rw[List.mem_singleton]at h;exact .inr ⟨p,List.mem_cons_self .., h.symm⟩
       . exact .inr ⟨q,List.mem_cons_of_mem _ hq,e⟩
     . rintro(h | ⟨q,hq,e⟩)
       . exact .inl (List.mem_append.2 (.inl h))
       . rcases List.mem_cons.1 hq with rfl | hq
         . exact .inl (List.mem_append.2 (.inr (by rw[List.mem_singleton];exact e.symm)))
         . exact .inr ⟨q,hq,e⟩
 obtain⟨h1,h2⟩:=key l [] List.nodup_nil;exact⟨h1,fun a=>(h2 a).trans (by simp)⟩
theorem EW{l l' :List ag}(h:∀p∈l',p∈l):(dV l').length<=(dV l).length:=by
 refine mH (pc l').1 fun a ha=>?_
 obtain⟨p,hp,e⟩:=((pc l').2 a).1 ha;exact((pc l).2 a).2 ⟨p,h p hp,e⟩
end NP
namespace Go.Proofs.YtcecidfnchcagaaGreatDoor
open NQ Go NP Go.RowKit
end Go.Proofs.YtcecidfnchcagaaGreatDoor
namespace NP
open NQ Go
theorem yy{ok:ag->Bool}{better:ag->ag->Bool}(hirr:∀p,better p p=false)(htr:∀p q r,better p q=true->better q r=true->better p r=true):∀(l:List ag) (i:Nat) (b:Option (Nat×ag)) (x:Nat×ag),gE ok better i l b=some x ->
 (b=some x\/(x.2∈l/\ok x.2=true))/\(∀e,(∀y,b=some y->better e y.2=false)->b ≠ none->better e x.2=false)/\ ∀p∈l,ok p=true->better p x.2=false
 | [],i,b,x,h=>by cases h;exact⟨.inl rfl,fun e he _=>he x rfl,fun p hp=>by cases hp⟩
 | p::t,i,b,x,h=>by
  have h' :gE ok better (i+1) t (bR ok better i p b)=some x:=h;obtain⟨h1,h2,h3⟩:=yy hirr htr t (i+1) _ x h';by_cases hp:ok p=true
  . cases b with
    | none =>
     have e0:bR ok better i p none=some (i,p):=by unfold bR;rw[if_pos hp]
     rw[e0]at h1 h2;refine⟨.inr ?_,fun e he hb=>absurd rfl hb,fun q hq hoq=>?_⟩
     . rcases h1 with h1 | h1
       . cases h1;exact⟨List.mem_cons_self .., hp⟩
       . exact⟨List.mem_cons_of_mem _ h1.1,h1.2⟩
     . rcases List.mem_cons.1 hq with rfl | hq
       . exact h2 q (fun y hy=>by cases hy;exact hirr q) (by simp)
       . exact h3 q hq hoq
    | some y =>
     by_cases hbt:better p y.2=true
     . have e0:bR ok better i p (some y)=some (i,p):=by unfold bR;rw[if_pos hp];dsimp only;rw[if_pos hbt]
       rw[e0]at h1 h2;refine⟨.inr ?_,fun e he _=>?_,fun q hq hoq=>?_⟩
       . rcases h1 with h1 | h1
         . cases h1;exact⟨List.mem_cons_self .., hp⟩
         . exact⟨List.mem_cons_of_mem _ h1.1,h1.2⟩
       . refine h2 e (fun z hz=>?_) (by simp);cases hz;cases hc:better e p with
         | false=>rfl
         | true =>
          have:=htr e p y.2 hc hbt;rw[he y rfl]at this;cases this
       . rcases List.mem_cons.1 hq with rfl | hq
         . exact h2 q (fun z hz=>by cases hz;exact hirr q) (by simp)
         . exact h3 q hq hoq
     . have e0:bR ok better i p (some y)=some y:=by unfold bR;rw[if_pos hp];dsimp only;rw[if_neg hbt]
       rw[e0]at h1 h2;refine⟨h1.imp id fun h1=>⟨List.mem_cons_of_mem _ h1.1,h1.2⟩,fun e he hb=>h2 e he hb,fun q hq hoq=>?_⟩;rcases List.mem_cons.1 hq with rfl | hq
       . exact h2 q (fun z hz=>by cases hz;simpa using hbt) (by simp)
       . exact h3 q hq hoq
  . have e0:bR ok better i p b=b:=by unfold bR;rw[if_neg hp]
    rw[e0]at h1 h2;refine⟨h1.imp id fun h1=>⟨List.mem_cons_of_mem _ h1.1,h1.2⟩,h2,fun q hq hoq=>?_⟩;rcases List.mem_cons.1 hq with rfl | hq
    . exact absurd hoq hp
    . exact h3 q hq hoq
theorem sO(p q:ag):cC p q=true ↔ (cP q.zone).1<(cP p.zone).1\/((cP p.zone).1=(cP q.zone).1/\p.host<q.host):=by
 unfold cC;simp
theorem Ih(p:ag):cC p p=false:=by
 rw[<- Bool.not_eq_true,sO];omega
theorem KA(p q r:ag)(h:cC p q=true)(k:cC q r=true):cC p r=true:=by
 rw[sO]at h k ⊢;omega
theorem qF{zs:List ag}{a:Bs}{x:Nat×ag}(h:aN zs a=some x):x.2∈zs/\x.2.zone.apex=a/\ ∀p∈zs,p.zone.apex=a->cC p x.2=false:=by
 obtain⟨h1,_,h3⟩:=yy Ih KA zs 0 none x h;rcases h1 with h1 | h1
 . cases h1
 . exact⟨h1.1,by simpa using h1.2,fun p hp ha=>h3 p hp (by simpa using ha)⟩
theorem rX{zs:List ag}{a:Bs}:aN zs a=none ↔ ∀p∈zs,p.zone.apex ≠ a:=by
 unfold aN;rw[rS];simp
theorem GZ{zs zs' :List ag}(hp:zs.Pairwise (fun x p=>cL p x=false))(hm:∀p,p∈zs ↔ p∈zs')(a:Bs):(aN zs a).map (·.2)=(aN zs' a).map (·.2):=by
 cases h:aN zs a with
 | none =>
  have:aN zs' a=none:=rX.2 fun p hp=>rX.1 h p ((hm p).2 hp)
  rw[this]
 | some x =>
  obtain⟨x1,x2,x3⟩:=qF h;cases h' :aN zs' a with
  | none=>exact absurd x2 (rX.1 h' x.2 ((hm _).1 x1))
  | some y =>
   obtain⟨y1,y2,y3⟩:=qF h';have g1:=x3 y.2 ((hm _).2 y1) y2;have g2:=y3 x.2 ((hm _).1 x1) x2;have hh:x.2.host=y.2.host:=by
    rw[<- Bool.not_eq_true,sO]at g1 g2;omega
   have:=y5 hp x1 ((hm _).2 y1) hh (x2.trans y2.symm);exact congrArg some this
theorem rI{zs zs' :List ag}(h:∀a,(aN zs a).map (·.2)=(aN zs' a).map (·.2))(q:aI):∀(f:Nat) (a:Bs),fR zs (bC zs) q f a=fR zs' (bC zs') q f a
 | 0,a=>rfl
 | f+1,a=>by
  rw[ij,ij];have:=h a;cases hx:aN zs a with
  | none =>
   cases hy:aN zs' a with
   | none=>rfl
   | some y=>rw[hx,hy]at this;cases this
  | some x =>
   cases hy:aN zs' a with
   | none=>rw[hx,hy]at this;cases this
   | some y =>
    rw[hx,hy]at this;have e:x.2=y.2:=Option.some.inj this;dsimp only;rw[e,rI h q f]
def ya:Nat->List de->List de
 | _,[]=>[]
 | i,h::t=>⟨[113],1000+(i:Int),h.owner⟩::ya (i+1) t
theorem vO:∀(i:Nat) (l:List de),(ya i l).length=l.length
 | _,[]=>rfl
 | i,h::t=>by rw[ya,List.length_cons,List.length_cons,vO (i+1) t]
theorem rD:∀(l:List de) (seen:List Int),dh seen l=true-> ∀h∈l,0<=h.owner/\h.owner<32
 | [],_,_,h,hh=>by cases hh
 | x::t,seen,hg,h,hh=>by
  unfold dh at hg;simp only[Bool.and_eq_true,Bool.not_eq_true',Bool.or_eq_false_iff,decide_eq_false_iff_not]at hg;rcases List.mem_cons.1 hh with rfl | hh
  . omega
  . exact rD t _ hg.2 h hh
theorem y9:∀(l:List de) (i:Nat) (seen:List Int),(∀s∈seen,s<1000+(i:Int))->i+l.length<=1000->(∀h∈l,0<=h.owner/\h.owner<32)->dh seen (ya i l)=true
 | [],_,_,_,_,_=>rfl
 | h::t,i,seen,hs,hl,ho=>by
  rw[List.length_cons]at hl;have h1:=ho h (List.mem_cons_self ..);unfold ya dh;have hv:ai [113]=true:=by decide
  have hwl:pa [113]=false:=by decide
  have hc:seen.contains (1000+(i:Int))=false:=by
   rw[Bool.eq_false_iff];intro e;have:=hs _ (List.contains_iff_mem.1 e);omega
  have hrec:=y9 t (i+1) (seen++[1000+(i:Int)]) (fun s hs' =>by
   rcases List.mem_append.1 hs' with h | h
   . have:=hs s h;omega
   . rw[List.mem_singleton]at h;omega) (by omega) fun x hx=>ho x (List.mem_cons_of_mem _ hx)
  dsimp only;rw[hv,hwl,hc,hrec];have e1:decide (h.owner<0)=false:=decide_eq_false (by omega);have e2:decide (h.owner>=32)=false:=decide_eq_false (by omega);have e3:dM (1000+(i:Int))=true:=by unfold dM;simp;omega
  rw[e1,e2,e3];rfl
def BG(w:aQ):aQ:=⟨ya 0 w.hosts,w.zones.reverse,w.anchor,w.hints⟩
theorem Ds{w:aQ}(h:aX w=true):aX (BG w)=true:=by
 unfold aX iR gX at h ⊢;simp only[Bool.and_eq_true,decide_eq_true_eq]at h ⊢;obtain⟨⟨⟨a1,a2⟩,⟨b1,b2⟩,b3⟩,c⟩:=h;have e:(BG w).hosts.length=w.hosts.length:=vO 0 _;refine⟨⟨⟨by rw[e];exact a1,y9 w.hosts 0 [] (fun s hs=>by cases hs) (by omega) (rD _ _ a2)⟩,⟨by show(w.zones.reverse.length:Int)<=4000;rw[List.length_reverse];exact b1,?_⟩,?_⟩,c⟩
 . rw[e];show cJ w.hosts.length [] w.zones.reverse=true
   rw[rW]at b2 ⊢;refine⟨fun p hp=>b2.1 p (List.mem_reverse.1 hp),?_⟩;rw[List.pairwise_reverse];refine b2.2.imp fun{a b} hab=>?_
   unfold cL at hab ⊢;rw[Bool.and_eq_false_iff]at hab ⊢;rcases hab with hab | hab
   . left;rw[beq_eq_false_iff_ne]at hab ⊢;exact Ne.symm hab
   . right;rw[beq_eq_false_iff_ne]at hab ⊢;exact Ne.symm hab
 . show((apx w.zones.reverse).length:Int)<=500
   have:=EW (l:=w.zones) (l' :=w.zones.reverse) fun p hp=>List.mem_reverse.1 hp
   rw[DM]at b3 ⊢;omega
end NP
