/-
  Texts of the proof, merged in build order.
-/
import Derived.Test.YtcecidfnchcagaaGreatDoorAbM
import Derived.Test.YtcecidfnchcagaaGreatDoorMGa
import Derived.Test.YtcecidfnchcagaaGreatDoorQsoM
import Derived.Test.YtcecidfnchcagaaGreatDoorSortM
import Derived.Test.YtcecidfnchcagaaGreatDoorMLrc
import Derived.Test.YtcecidfnchcagaaGreatDoorMCa
import Derived.Test.YtcecidfnchcagaaGreatDoorMVa
set_option linter.all false
set_option maxRecDepth 100000
namespace NP
open NQ Go
def gS(ok:ai->Bool)(better:ai->ai->Bool):Nat->List ai->Option (Nat×ai)->Option (Nat×ai)
 | _,[],b=>b
 | i,p::t,b=>gS ok better (i+1) t (if ok p=true then(match b with | none=>some (i,p) | some x=>if better p x.2=true then some (i,p)else b)else b)
def Ks:Option (Nat×ai)->Int
 | none=> -1
 | some x=>(x.1:Int)
def cJ(ok:ai->Bool)(better:ai->ai->Bool)(i:Nat)(p:ai)(b:Option (Nat×ai)):Option (Nat×ai):=if ok p=true then(match b with | none=>some (i,p) | some x=>if better p x.2=true then some (i,p)else b)else b
theorem GG{ok:ai->Bool}{better:ai->ai->Bool}{l:List ai}{k:Nat}{p:ai}(h:l[k]? =some p)(b:Option (Nat×ai)):gS ok better k (l.drop k) b=gS ok better (k+1) (l.drop (k+1)) (cJ ok better k p b):=by
 rw[drop_cons h];rfl
def lC(zs:List ai)(b:Option (Nat×ai)):Prop:= ∀x,b=some x->zs[x.1]? =some x.2
theorem lC.step{zs:List ai}{b:Option (Nat×ai)}(h:lC zs b){ok:ai->Bool}{better:ai->ai->Bool}{i:Nat}{p:ai}(hp:zs[i]? =some p):lC zs (cJ ok better i p b):=by
 intro x hx;unfold cJ at hx;split at hx
 . split at hx
   . cases hx;exact hp
   . split at hx
     . cases hx;exact hp
     . exact h x hx
 . exact h x hx
theorem DN{zs:List ai}{ok:ai->Bool}{better:ai->ai->Bool}:∀(l:List ai) (i:Nat) (b:Option (Nat×ai)),(∀j,l[j]? =zs[i+j]?)->lC zs b->lC zs (gS ok better i l b)
 | [],i,b,_,h=>h
 | p::t,i,b,hl,h=>DN t (i+1) _ (fun j=>by have:=hl (j+1);simp at this;rw[this];congr 1;omega) (h.step (by have:=hl 0;simpa using this.symm))
theorem yE{ok:ai->Bool}{better:ai->ai->Bool}:∀(l:List ai) (i:Nat) (b:Option (Nat×ai)),gS ok better i l b=none ↔ (b=none/\ ∀p∈l,ok p=false)
 | [],i,b=>by simp[gS]
 | p::t,i,b=>by
  show gS ok better (i+1) t (cJ ok better i p b)=none ↔ _
  rw[yE t];unfold cJ;cases hp:ok p <;> cases b <;> simp[hp];intro h;split at h <;> cases h
def ck(zs:List ai)(a:Bs):Option (Nat×ai):=gS (fun p=>p.zone.apex==a) dg 0 zs none
theorem zw{zs:List ai}{a:Bs}:∀(l:List ai) (i:Nat) (m:List (Bs×Nat)) (b:Option (Nat×ai)),(∀j,l[j]? =zs[i+j]?)->lC zs b->de a m=b.map (·.1)->de a (fW zs i l m)=(gS (fun p=>p.zone.apex==a) dg i l b).map (·.1)
 | [],i,m,b,_,_,h=>h
 | p::t,i,m,b,hl,hb,h=>by
  have hp:zs[i]? =some p:=by have:=hl 0;simpa using this.symm
  show de a (fW zs (i+1) t (if dG zs m p=true then dX p.zone.apex i m else m))=(gS (fun p=>p.zone.apex==a) dg (i+1) t (cJ (fun p=>p.zone.apex==a) dg i p b)).map (·.1)
  refine zw t (i+1) _ _ (fun j=>by have:=hl (j+1);simp at this;rw[this];congr 1;omega) (hb.step hp) ?_;by_cases ha:p.zone.apex=a
  . have hb' :∀b,cJ (fun p=>p.zone.apex==a) dg i p b=(match b with | none=>some (i,p) | some x=>if dg p x.2=true then some (i,p)else b):=fun b=>by
     unfold cJ;exact if_pos (by show(p.zone.apex==a)=true;rw[ha];exact beq_self_eq_true a)
    rw[hb'];cases b with
    | none =>
     have ht:dG zs m p=true:=by unfold dG;rw[ha,h];rfl
     rw[if_pos ht,nw,if_pos ha];rfl
    | some x =>
     have hx:=hb x rfl;have ht:dG zs m p=dg p x.2:=by unfold dG;rw[ha,h];simp only[Option.map_some];rw[hx]
     dsimp only;rw[ht];split
     . rw[nw,if_pos ha];rfl
     . exact h
  . have hb' :cJ (fun p=>p.zone.apex==a) dg i p b=b:=by unfold cJ;exact if_neg (by simpa using ha)
    rw[hb'];split
    . rw[nw,if_neg ha];exact h
    . exact h
theorem nA(zs:List ai)(a:Bs):de a (cw zs)=(ck zs a).map (·.1):=zw zs 0 [] none (fun j=>by rw[Nat.zero_add]) (fun x hx=>by cases hx) rfl
theorem vr(zs:List ai)(a:Bs):lC zs (ck zs a):=DN zs 0 none (fun j=>by rw[Nat.zero_add]) (fun x hx=>by cases hx)
def gJ(l:List ai):List Bs:=l.foldl (fun out p=>if out.contains p.zone.apex=true then out else out++[p.zone.apex]) []
theorem ur(l:List ai)(p:ai):gJ (l++[p])=if (gJ l).contains p.zone.apex=true then gJ l else gJ l++[p.zone.apex]:=by unfold gJ;rw[List.foldl_append];rfl
theorem EI(l:List ai):(gJ l).length<=l.length:=by
 have key:∀(l:List ai) (out:List Bs),(l.foldl (fun out p=>if out.contains p.zone.apex=true then out else out++[p.zone.apex]) out).length<=out.length+l.length:=fun l=>by
  induction l with
  | nil=>intro out;simp
  | cons p t ih =>
   intro out;refine Nat.le_trans (ih _) ?_;dsimp only;split <;> simp <;> omega
 have:=key l [];rw[List.length_nil,Nat.zero_add]at this;exact this
theorem xt(a:Bs)(v:D):∀m:List (Bs×D),(cG a v m).map (·.1)=if (m.map (·.1)).contains a=true then m.map (·.1)else m.map (·.1)++[a]
 | []=>by simp[cG]
 | (b,x)::t=>by
  show(if a=b then _ else _::cG a v t).map (·.1)=_
  by_cases h:a=b
  . subst h;simp
  . rw[if_neg h];simp only[List.map_cons,List.contains_cons];rw[xt a v t];have:(a==b)=false:=by simpa using h
    rw[this,ax];split <;> simp
theorem I8(l:List ai):(apx l).map (·.1)=gJ l:=by
 have key:∀(l:List ai) (m:List (Bs×D)),(l.foldl (fun m p=>cG p.zone.apex (.bool true) m) m).map (·.1)=l.foldl (fun out p=>if out.contains p.zone.apex=true then out else out++[p.zone.apex]) (m.map (·.1)):=fun l=>by
  induction l with
  | nil=>intro m;rfl
  | cons p t ih=>intro m;simp only[List.foldl_cons];rw[ih,xt]
 exact key l []
theorem LC(l:List ai):(apx l).length=(gJ l).length:=by rw[<- I8,ak]
def mq(w:bS):Bool:=(w.zones.take 21).all (fun p=>eu p.zone&&decide (p.zone.apex.length<=100))&&(w.hosts.take 71).all (fun h=>decide (h.name.length<=100))&&decide ((w.zones.length:Int)<=20)&&decide ((w.hosts.length:Int)<=70)&&decide ((w.hints.length:Int)<=20)&&decide ((w.anchor.data.length:Int)<=20)
theorem JM{w:bS}(h:mq w=true):kB w/\w.hosts.length<=70/\w.zones.length<=20/\w.hints.length<=20:=by
 unfold mq at h;simp only[aN,decide_eq_true_eq,ay]at h;obtain⟨⟨⟨⟨⟨h1,h2⟩,h3⟩,h4⟩,h5⟩,h6⟩:=h;have:w.zones.take 21=w.zones:=List.take_of_length_le (by omega);rw[this]at h1;exact⟨⟨by omega,by omega,by omega,fun p hp=>(h1 p hp).1⟩,by omega,by omega,by omega⟩
end NP
namespace Go.Proofs.YtcecidfnchcagaaGreatDoor
open NQ Go NP Go.RowKit
theorem Hj(l:List oU)(hl:l.length<=100000):NQ.Fn cx 131 [.slice 3 (l.map j9)] (.d (.bool (kL l))) []:=by
 refine aM bf mixed Tryz.func131 (by kernel_rfl) rfl (ag rfl) ?_;conv=>whnf
 rw[ak];refine ae (fun h=>?_) (fun h=>?_) <;> (rw[h];conv=>whnf)
 . refine af rfl ?_;show AV.d (D.bool _)=AV.d (D.bool _)
   congr 2
   unfold kL;simp at h;simp;omega
 have hle:kL l=jq [] l:=by unfold kL;simp at h;simp;omega
 rw[hle];refine⟨Nat,fun k=>⟨[(0, .d (.slice 3 (l.map j9))),(3, .d (.int .i64 k))],[]⟩,fun k=>k<=l.length/\jq ((l.take k).map (·.addr)) (l.drop k)=jq [] l,fun k=>l.length-k,
  ⟨0,⟨Nat.zero_le _,rfl⟩,an.keep ⟨⟨rfl,rfl⟩,⟨rfl,rfl⟩,trivial⟩ trivial⟩,fun k ⟨hk,hinv⟩=>?_⟩
 conv=>whnf
 refine ae (fun h1=>?_) (fun h1=>?_) <;> (rw[h1];conv=>whnf)
 . have hlt:k<l.length:=by simpa using h1
   obtain⟨x,hx⟩:∃x,l[k]? =some x:=⟨_,ah hlt⟩
   rw[wR hx]at hinv;refine⟨aJ k,j9 x,aT hx,?_⟩
   conv=>whnf
   (refine⟨_,_,lg x.name,?_⟩;conv=>whnf)
   cases hv:aj x.name with
   | false =>
    conv=>whnf
    refine af rfl ?_;rw[<- hinv,hv];rfl
   | true =>
    conv=>whnf
    (refine⟨_,_,Aq x.name hv,?_⟩;conv=>whnf)
    rw[hv,K8 hv]at hinv
    repeat' (first | (refine ae (fun h=>?_) (fun h=>?_) <;> (rw[h];conv=>whnf)) | fail)
    all_goals first
     | (refine af rfl ?_;show AV.d (D.bool false)=AV.d (D.bool _);rw[<- hinv];clear hinv hle;unfold fm;simp_all;done)
     | skip
    all_goals first
     | (refine af rfl ?_;show AV.d (D.bool false)=AV.d (D.bool _);rw[<- hinv];clear hinv hle;unfold fm;simp_all;omega)
     | skip
    refine⟨Nat,fun j=>⟨[(0, .d (.slice 3 (l.map j9))),(3, .d (.int .i64 k)),(4, .ptr 4 0),(6, .d (.int .i64 j))],[(4, .box ((j9 x).map .d))]⟩,fun j=>j<=k/\((l.take j).map (·.addr)).contains x.addr=false,fun j=>k-j,
     ⟨0,⟨Nat.zero_le _,rfl⟩,an.keep ⟨⟨rfl,rfl⟩,⟨rfl,rfl⟩,⟨rfl,rfl⟩,⟨rfl,rfl⟩,trivial⟩ ⟨⟨rfl,rfl⟩,trivial⟩⟩,fun j ⟨hj,hno⟩=>?_⟩
    conv=>whnf
    refine ae (fun h2=>?_) (fun h2=>?_) <;> (rw[h2];conv=>whnf)
    . have hjk:j<k:=by simpa using h2
      obtain⟨y,hy⟩:∃y,l[j]? =some y:=⟨_,ah (by omega)⟩
      try (refine⟨(by kernel_rfl:bA _ _=true),?_⟩;conv=>whnf)
      refine⟨aJ j,j9 y,aT hy,?_⟩
      conv=>whnf
      refine ae (fun h3=>?_) (fun h3=>?_) <;> (rw[h3];conv=>whnf)
      . refine af rfl ?_;show AV.d (D.bool false)=AV.d (D.bool _)
        have:((l.take k).map (·.addr)).contains x.addr=true:=by
         rw[dm,List.mem_map];exact⟨y,ao (i:=j) (by rw[List.getElem?_take,if_pos hjk];exact hy),by simpa using h3⟩
        rw[<- hinv,this];simp
      . refine⟨j+1,⟨hjk,?_⟩,by(show k-(j+1)<k-j;omega),an.keep ⟨⟨rfl,rfl⟩,⟨rfl,rfl⟩,⟨rfl,rfl⟩,⟨ar (by omega),rfl⟩,trivial⟩ ⟨⟨rfl,rfl⟩,trivial⟩⟩;rw[bw hy,List.map_append];have h3' :(x.addr==y.addr)=false:=by
         rw[<- Bool.not_eq_true]at h3 ⊢;intro e;apply h3;simp at e ⊢;exact e.symm
        simp only[List.map_cons,List.map_nil];rw[Bool.eq_false_iff]at hno h3' ⊢;simp only[ne_eq,dm,List.mem_append,List.mem_singleton,beq_iff_eq]at hno h3' ⊢;rintro(e | e)
        . exact hno e
        . exact h3' e
    . obtain rfl:j=k:=by simp at h2;omega
      refine⟨j+1,⟨hlt,?_⟩,by(show l.length-(j+1)<l.length-j;omega),an.keep ⟨⟨rfl,rfl⟩,⟨ar (by omega),rfl⟩,trivial⟩ trivial⟩;rw[bw hx,List.map_append, <- hinv,hno];clear hinv hle;show _=(_&&_&&_)
      unfold fm
      simp_all
      try omega
 . obtain rfl:k=l.length:=by simp at h1;omega
   refine af rfl ?_;rw[<- hinv,List.drop_length];rfl
theorem Ik(s:fI)(hints:List Int)(hl:hints.length<=100000):NQ.Fn cx 132 [.agg (jB s), .slice 1 (hints.map dj)] (.d (.bool (mN s hints))) []:=by
 refine aM bf mixed Tryz.func132 (by kernel_rfl) rfl (ag rfl) ?_;conv=>whnf
 refine⟨Nat,fun k=>⟨[(1, .d (.slice 1 (hints.map dj))),(2, .ptr 2 0),(5, .d (.int .i64 k))],[(2, .box ((jB s).map .d))]⟩,fun k=>k<=hints.length/\(hints.take k).all fm=true,fun k=>hints.length-k,
  ⟨0,⟨Nat.zero_le _,rfl⟩,an.keep ⟨⟨rfl,rfl⟩,⟨rfl,rfl⟩,⟨rfl,rfl⟩,trivial⟩ ⟨⟨rfl,rfl⟩,trivial⟩⟩,fun k ⟨hk,hall⟩=>?_⟩
 conv=>whnf
 refine ae (fun h1=>?_) (fun h1=>?_) <;> (rw[h1];conv=>whnf)
 . have hlt:k<hints.length:=by simpa using h1
   obtain⟨x,hx⟩:∃x,hints[k]? =some x:=⟨_,ah hlt⟩
   refine⟨aJ k,dj x,aT hx,?_⟩
   conv=>whnf
   have no:fm x=false->mN s hints=false:=fun hb=>by
    have:hints.all fm=false:=by
     rw[<- Bool.not_eq_true,ay];intro hh;rw[hh x (ao hx)]at hb;cases hb
    unfold mN;rw[this];simp
   refine ae (fun h2=>?_) (fun h2=>?_) <;> (rw[h2];conv=>whnf)
   . refine af rfl ?_;rw[no (by unfold fm;simp at h2 ⊢;omega)];rfl
   . refine⟨aJ k,dj x,aT hx,?_⟩
     conv=>whnf
     refine ae (fun h3=>?_) (fun h3=>?_) <;> (rw[h3];conv=>whnf)
     . refine af rfl ?_;rw[no (by unfold fm;simp at h2 h3 ⊢;omega)];rfl
     . refine⟨k+1,⟨hlt,?_⟩,by(show hints.length-(k+1)<hints.length-k;omega),an.keep ⟨⟨rfl,rfl⟩,⟨rfl,rfl⟩,⟨ar (by omega),rfl⟩,trivial⟩ ⟨⟨rfl,rfl⟩,trivial⟩⟩;rw[bw hx,List.all_append,hall];simp at h2 h3;simp[fm];omega
 . obtain rfl:k=hints.length:=by simp at h1;omega
   rw[List.take_length]at hall
   (refine⟨_,_,B8 s,?_⟩;conv=>whnf)
   repeat' (first | (refine ae (fun h=>?_) (fun h=>?_) <;> (rw[h];conv=>whnf)) | fail)
   all_goals (refine af rfl ?_;show AV.d (D.bool _)=AV.d (D.bool _);congr 2;(try simp only[ak]at *);unfold mN;rw[hall];simp only[*, if_true,if_false,av,aF,aE,aG,aK,aH,ax,aA,aB,aC,aD,az])
theorem EJ(l:List ai)(hl:l.length<=100000):NQ.Fn cx 133 [.slice 3 (l.map bZ)] (.d (.slice 1 ((gJ l).map aI))) []:=by
 refine aM bf mixed Tryz.func133 (by kernel_rfl) rfl (ag rfl) ?_;conv=>whnf
 refine⟨Nat,fun k=>⟨[(0, .d (.slice 3 (l.map bZ))),(3, .own 100),(4, .d (.int .i64 k))],[(100, .row 9 1 ((gJ (l.take k)).map aI))]⟩,fun k=>k<=l.length,fun k=>l.length-k,
  ⟨0,Nat.zero_le _,(an.lu 3 100 1 9 1 rfl rfl (by decide)).trans (an.keep ⟨⟨rfl,rfl⟩,⟨rfl,rfl⟩,⟨rfl,rfl⟩,trivial⟩ ⟨⟨rfl,rfl⟩,trivial⟩)⟩,fun k hk=>?_⟩
 conv=>whnf
 refine ae (fun h1=>?_) (fun h1=>?_) <;> (rw[h1];conv=>whnf)
 . have hlt:k<l.length:=by simpa using h1
   obtain⟨x,hx⟩:∃x,l[k]? =some x:=⟨_,ah hlt⟩
   have hal:(gJ (l.take k)).length<=k:=by have:=EI (l.take k);rw[List.length_take]at this;omega
   generalize hA:gJ (l.take k)=A at *
   refine⟨Nat×Bool,fun j=>⟨[(0, .d (.slice 3 (l.map bZ))),(3, .own 100),(4, .d (.int .i64 k)),(5, .d (.bool j.2)),(6, .d (.int .i64 j.1))],[(100, .row 9 1 (A.map aI))]⟩,fun j=>j.1<=A.length/\j.2=(A.take j.1).contains x.zone.apex,fun j=>A.length-j.1,
    ⟨(0,false),⟨Nat.zero_le _,rfl⟩,an.keep ⟨⟨rfl,rfl⟩,⟨rfl,rfl⟩,⟨rfl,rfl⟩,⟨rfl,rfl⟩,⟨rfl,rfl⟩,trivial⟩ ⟨⟨by rw[<- hA];rfl,rfl⟩,trivial⟩⟩,fun⟨j,f⟩ ⟨hj,hf⟩=>?_⟩
   dsimp only at hj hf ⊢
   conv=>whnf
   refine ae (fun h2=>?_) (fun h2=>?_) <;> (rw[h2];conv=>whnf)
   . have hjl:j<A.length:=by simpa using h2
     obtain⟨y,hy⟩:∃y,A[j]? =some y:=⟨_,ah hjl⟩
     (refine⟨(by kernel_rfl:bA _ _=true),?_⟩;conv=>whnf)
     refine ae (fun h3=>?_) (fun h3=>?_) <;> (rw[h3];conv=>whnf)
     . refine⟨(j+1,true),⟨hjl,?_⟩,by(show A.length-(j+1)<A.length-j;omega),an.keep ⟨⟨rfl,rfl⟩,⟨rfl,rfl⟩,⟨rfl,rfl⟩,⟨rfl,rfl⟩,⟨ar (by omega),rfl⟩,trivial⟩ ⟨⟨rfl,rfl⟩,trivial⟩⟩;dsimp only;rw[bw hy,List.contains_append, <- hf,h3];rfl
     . refine⟨aJ j,by(show j<(A.map aI).length;rw[ak];exact hjl),?_⟩
       conv=>whnf
       refine⟨aI y,aT hy,?_⟩
       conv=>whnf
       refine⟨aJ k,bZ x,aT hx,?_⟩
       conv=>whnf
       refine⟨(j+1,y==x.zone.apex),⟨hjl,?_⟩,by(show A.length-(j+1)<A.length-j;omega),an.keep ⟨⟨rfl,rfl⟩,⟨rfl,rfl⟩,⟨rfl,rfl⟩,⟨rfl,rfl⟩,⟨ar (by omega),rfl⟩,trivial⟩ ⟨⟨rfl,rfl⟩,trivial⟩⟩;dsimp only;rw[bw hy,List.contains_append, <- hf,h3,ax];simp only[List.contains_cons,List.contains_nil,aA];exact Bool.eq_iff_iff.2 ⟨fun h=>by simp at h ⊢;exact h.symm,fun h=>by simp at h ⊢;exact h.symm⟩
   . obtain rfl:j=A.length:=by simp at h2;omega
     rw[List.take_length]at hf;refine ae (fun h3=>?_) (fun h3=>?_) <;> (rw[h3];conv=>whnf)
     . have hc:A.contains x.zone.apex=false:=by rw[<- hf];simpa using h3
       refine⟨aJ k,bZ x,aT hx,?_⟩
       conv=>whnf
       refine⟨by(show(A.map aI).length+1<=_);simp;omega,by(show((A.map aI).length+1)*16<=_);simp;omega,?_⟩
       conv=>whnf
       refine⟨k+1,hlt,by(show l.length-(k+1)<l.length-k;omega),an.keep ⟨⟨rfl,rfl⟩,⟨rfl,rfl⟩,⟨ar (by omega),rfl⟩,trivial⟩ ⟨⟨?_,rfl⟩,trivial⟩⟩;rw[bw hx,ur,hA,if_neg (by rw[hc];simp),List.map_append];rfl
     . have hc:A.contains x.zone.apex=true:=by rw[<- hf];simpa using h3
       refine⟨k+1,hlt,by(show l.length-(k+1)<l.length-k;omega),an.keep ⟨⟨rfl,rfl⟩,⟨rfl,rfl⟩,⟨ar (by omega),rfl⟩,trivial⟩ ⟨⟨?_,rfl⟩,trivial⟩⟩;rw[bw hx,ur,hA,if_pos hc];rfl
 . obtain rfl:k=l.length:=by simp at h1;omega
   refine af rfl ?_;rw[List.take_length];rfl
set_option maxHeartbeats 2000000 in
theorem IL(w:bS)(h1:w.hosts.length<=100000)(h2:w.zones.length<=100000)(h3:w.hints.length<=100000)(h4:∀p∈w.zones,p.zone.sets.length<=100000):NQ.Fn cx 70 [.agg (cH w)] (.d (.bool (cC w))) []:=by
 refine aM bf mixed Tryz.func70 (by kernel_rfl) rfl (ag rfl) ?_;conv=>whnf
 (refine⟨_,_,Hj w.hosts h1,?_⟩;conv=>whnf)
 cases e1:kL w.hosts with
 | false =>
  conv=>whnf
  refine af rfl ?_;have:cC w=false:=by unfold cC;rw[e1];rfl
  rw[this];rfl
 | true =>
 conv=>whnf
 refine ae (fun g0=>?_) (fun g0=>?_) <;> (rw[g0];conv=>whnf)
 . refine af rfl ?_;have:cC w=false:=by
    have e3:decide ((w.zones.length:Int)<=4000)=false:=by
     have:=of_decide_eq_true g0;rw[ak]at this;exact decide_eq_false (by omega)
    unfold cC lj;rw[e3];simp
   rw[this];rfl
 (refine⟨_,_,Ik w.anchor w.hints h3,?_⟩;conv=>whnf)
 cases e2:mN w.anchor w.hints with
 | false =>
  conv=>whnf
  refine af rfl ?_;have:cC w=false:=by unfold cC;rw[e2];simp
  rw[this];rfl
 | true =>
 conv=>whnf
 have hyes:cC w=(fg w.hosts.length [] w.zones&&decide (((apx w.zones).length:Int)<=500)):=by
  have e3:(w.zones.length:Int)<=4000:=by
   have:=of_decide_eq_false g0;rw[ak]at this;omega
  unfold cC lj;rw[e1,e2,decide_eq_true e3];simp
 refine⟨Nat,fun k=>⟨[(1, .ptr 1 0),(3, .d (.int .i64 k))],[(1, .box ((cH w).map .d))]⟩,fun k=>k<=w.zones.length/\fg w.hosts.length (w.zones.take k) (w.zones.drop k)=fg w.hosts.length [] w.zones,fun k=>w.zones.length-k,
  ⟨0,⟨Nat.zero_le _,rfl⟩,an.keep ⟨⟨rfl,rfl⟩,⟨rfl,rfl⟩,trivial⟩ ⟨⟨rfl,rfl⟩,trivial⟩⟩,fun k ⟨hk,hinv⟩=>?_⟩
 conv=>whnf
 refine ae (fun g1=>?_) (fun g1=>?_) <;> (rw[g1];conv=>whnf)
 . have hlt:k<w.zones.length:=by simpa using g1
   obtain⟨x,hx⟩:∃x,w.zones[k]? =some x:=⟨_,ah hlt⟩
   rw[uz hx]at hinv;refine⟨aJ k,bZ x,aT hx,?_⟩
   conv=>whnf
   (refine⟨_,_,zk x.zone (h4 x (ao hx)),?_⟩;conv=>whnf)
   have bad:(decide (x.host<0)||decide (x.host>=(w.hosts.length:Int))||(w.zones.take k).any (gz x)|| !bD x.zone)=true->cC w=false:=fun hb=>by
    rw[hyes, <- hinv,hb];rfl
   refine ae (fun g2=>?_) (fun g2=>?_) <;> (rw[g2];conv=>whnf)
   . refine af rfl ?_;rw[bad (by simp_all)];rfl
   refine ae (fun g3=>?_) (fun g3=>?_) <;> (rw[g3];conv=>whnf)
   . refine af rfl ?_;rw[bad (by simp_all)];rfl
   refine ae (fun g4=>?_) (fun g4=>?_) <;> (rw[g4];conv=>whnf)
   . refine af rfl ?_;rw[bad (by(try simp only[ak]at *);simp_all)];rfl
   refine⟨Nat,fun j=>⟨[(1, .ptr 1 0),(3, .d (.int .i64 k)),(4, .ptr 4 0),(6, .d (.int .i64 j))],[(1, .box ((cH w).map .d)),(4, .box ((bZ x).map .d))]⟩,fun j=>j<=k/\(w.zones.take j).any (gz x)=false,fun j=>k-j,
    ⟨0,⟨Nat.zero_le _,rfl⟩,an.keep ⟨⟨rfl,rfl⟩,⟨rfl,rfl⟩,⟨rfl,rfl⟩,⟨rfl,rfl⟩,trivial⟩ ⟨⟨rfl,rfl⟩,⟨rfl,rfl⟩,trivial⟩⟩,fun j ⟨hj,hno⟩=>?_⟩
   conv=>whnf
   refine ae (fun g5=>?_) (fun g5=>?_) <;> (rw[g5];conv=>whnf)
   . have hjk:j<k:=by simpa using g5
     obtain⟨y,hy⟩:∃y,w.zones[j]? =some y:=⟨_,ah (by omega)⟩
     (refine⟨(by kernel_rfl:bA _ _=true),?_⟩;conv=>whnf)
     refine⟨aJ j,bZ y,aT hy,?_⟩
     conv=>whnf
     have next:gz x y=false->j+1<=k/\(w.zones.take (j+1)).any (gz x)=false:=fun hs=>⟨hjk,by rw[bw hy,List.any_append,hno];simp[hs]⟩
     refine ae (fun g6=>?_) (fun g6=>?_) <;> (rw[g6];conv=>whnf)
     . refine⟨aJ j,bZ y,aT hy,?_⟩
       conv=>whnf
       refine ae (fun g7=>?_) (fun g7=>?_) <;> (rw[g7];conv=>whnf)
       . refine af rfl ?_;have:(w.zones.take k).any (gz x)=true:=by
          rw[List.any_eq_true];refine⟨y,ao (i:=j) (by rw[List.getElem?_take,if_pos hjk];exact hy),?_⟩;simp at g6 g7;simp[gz,g6,g7]
         rw[bad (by rw[this];simp)];rfl
       . exact⟨j+1,next (by unfold gz;simp at g7;rw[Bool.and_eq_false_iff];right;simp;exact fun e=>g7 e.symm),by(show k-(j+1)<k-j;omega),an.keep ⟨⟨rfl,rfl⟩,⟨rfl,rfl⟩,⟨rfl,rfl⟩,⟨ar (by omega),rfl⟩,trivial⟩ ⟨⟨rfl,rfl⟩,⟨rfl,rfl⟩,trivial⟩⟩
     . exact⟨j+1,next (by unfold gz;simp at g6;rw[Bool.and_eq_false_iff];left;simp;exact fun e=>g6 e.symm),by(show k-(j+1)<k-j;omega),an.keep ⟨⟨rfl,rfl⟩,⟨rfl,rfl⟩,⟨rfl,rfl⟩,⟨ar (by omega),rfl⟩,trivial⟩ ⟨⟨rfl,rfl⟩,⟨rfl,rfl⟩,trivial⟩⟩
   . obtain rfl:j=k:=by simp at g5;omega
     refine⟨j+1,⟨hlt,?_⟩,by(show w.zones.length-(j+1)<w.zones.length-j;omega),an.keep ⟨⟨rfl,rfl⟩,⟨ar (by omega),rfl⟩,trivial⟩ ⟨⟨rfl,rfl⟩,trivial⟩⟩;rw[bw hx, <- hinv];clear hinv hyes bad;have e1:decide (x.host<0)=false:=g3;have e2:decide (x.host>=(w.hosts.length:Int))=false:=by(try simp only[ak]at g4);exact g4
     have e3:(!bD x.zone)=false:=g2;rw[e1,e2,e3,hno];simp
 . obtain rfl:k=w.zones.length:=by simp at g1;omega
   (refine⟨_,_,EJ w.zones h2,?_⟩;conv=>whnf)
   refine af rfl ?_;show AV.d (D.bool _)=AV.d (D.bool _)
   congr 2
   rw[List.drop_length]at hinv;rw[hyes, <- hinv,LC];simp[fg]
def Fh:Nat->List Nat:=fun | 7=>[55555] | 12=>[55555] | _=>[]
theorem yO(w:bS)(hz:(w.zones.take 21).all (fun p=>eu p.zone&&decide (p.zone.apex.length<=100))=true)(hh:(w.hosts.take 71).all (fun h=>decide (h.name.length<=100))=true)(st:St)(hs:an cx st ⟨[(1, .ptr 1 0)],[(1, .box ((cH w).map .d))]⟩) :
 vc cx Tryz.f16.ntmps Fh (n9 3 ((Tryz.f16.body).getD .skip)) (fnQ cx Tryz.f16.results.toList (.d (.bool (mq w))) []) st:=by
 conv=>whnf
 refine⟨_,hs,?_⟩
 conv=>whnf
 have e:mq w=(decide ((w.zones.length:Int)<=20)&&decide ((w.hosts.length:Int)<=70)&&decide ((w.hints.length:Int)<=20)&&decide ((w.anchor.data.length:Int)<=20)):=by
  unfold mq;rw[hz,hh];rfl
 repeat' (first | (refine ae (fun h=>?_) (fun h=>?_) <;> (rw[h];conv=>whnf)) | fail)
 all_goals (refine af rfl ?_;show AV.d (D.bool _)=AV.d (D.bool _);congr 2;(try simp only[ak]at *);rw[e];simp only[*, if_true,if_false,av,aF,aE,aG,aK,aH,ax,aA,aB,aC,aD,az])
theorem A6(w:bS)(hz:(w.zones.take 21).all (fun p=>eu p.zone&&decide (p.zone.apex.length<=100))=true)(st:St)(hs:an cx st ⟨[(1, .ptr 1 0)],[(1, .box ((cH w).map .d))]⟩) :
 vc cx Tryz.f16.ntmps Fh (n9 2 ((Tryz.f16.body).getD .skip)) (fnQ cx Tryz.f16.results.toList (.d (.bool (mq w))) []) st:=by
 conv=>whnf
 refine⟨_,hs,?_⟩
 conv=>whnf
 refine⟨Nat,fun k=>⟨[(1, .ptr 1 0),(5, .d (.int .i64 k))],[(1, .box ((cH w).map .d))]⟩,fun k=>k<=w.hosts.length/\k<=71/\(w.hosts.take k).all (fun h=>decide (h.name.length<=100))=true,fun k=>w.hosts.length-k,
  ⟨0,⟨Nat.zero_le _,Nat.zero_le _,rfl⟩,an.keep ⟨⟨rfl,rfl⟩,⟨rfl,rfl⟩,trivial⟩ ⟨⟨rfl,rfl⟩,trivial⟩⟩,fun k ⟨hk,hk2,hall⟩=>?_⟩
 conv=>whnf
 refine ae (fun g1=>?_) (fun g1=>?_) <;> (rw[g1];conv=>whnf)
 . have hlt:k<w.hosts.length:=by simpa using g1
   obtain⟨x,hx⟩:∃x,w.hosts[k]? =some x:=⟨_,ah hlt⟩
   refine ae (fun g2=>?_) (fun g2=>?_) <;> (rw[g2];conv=>whnf)
   . have hk3:k<71:=by simp at g2;omega
     refine⟨aJ k,j9 x,aT hx,?_⟩
     conv=>whnf
     refine ae (fun g4=>?_) (fun g4=>?_) <;> (rw[g4];conv=>whnf)
     . refine af rfl ?_;have:(w.hosts.take 71).all (fun h=>decide (h.name.length<=100))=false:=by
        rw[<- Bool.not_eq_true,ay];intro h;have:=h x (ao (i:=k) (by rw[List.getElem?_take,if_pos hk3];exact hx));simp at g4 this;omega
       have:mq w=false:=by unfold mq;rw[this];simp
       rw[this];rfl
     . refine⟨k+1,⟨hlt,by omega,?_⟩,by(show w.hosts.length-(k+1)<w.hosts.length-k;omega),an.keep ⟨⟨rfl,rfl⟩,⟨ar (by omega),rfl⟩,trivial⟩ ⟨⟨rfl,rfl⟩,trivial⟩⟩;rw[bw hx,List.all_append,hall];simp at g4;simp;omega
   . have:k=71:=by simp at g2;omega
     subst this;exact yO w hz hall _ (an.keep ⟨⟨rfl,rfl⟩,trivial⟩ ⟨⟨rfl,rfl⟩,trivial⟩)
 . obtain rfl:k=w.hosts.length:=by simp at g1;omega
   exact yO w hz (by rw[List.take_length]at hall;rw[List.take_of_length_le hk2];exact hall) _ (an.keep ⟨⟨rfl,rfl⟩,trivial⟩ ⟨⟨rfl,rfl⟩,trivial⟩)
theorem LP(w:bS):NQ.Fn cx 16 [.agg (cH w)] (.d (.bool (mq w))) []:=by
 refine cV Fh bf mixed Tryz.func16 (by kernel_rfl) rfl (ag rfl) ?_
 conv=>whnf
 refine⟨Nat,fun k=>⟨[(1, .ptr 1 0),(3, .d (.int .i64 k))],[(1, .box ((cH w).map .d))]⟩,fun k=>k<=w.zones.length/\k<=21/\(w.zones.take k).all (fun p=>eu p.zone&&decide (p.zone.apex.length<=100))=true,fun k=>w.zones.length-k,
  ⟨0,⟨Nat.zero_le _,Nat.zero_le _,rfl⟩,an.keep ⟨⟨rfl,rfl⟩,⟨rfl,rfl⟩,trivial⟩ ⟨⟨rfl,rfl⟩,trivial⟩⟩,fun k ⟨hk,hk2,hall⟩=>?_⟩
 conv=>whnf
 have no:∀p,w.zones[k]? =some p->k<21->(eu p.zone&&decide (p.zone.apex.length<=100))=false->mq w=false:=fun p hp hk hb=>by
  have:(w.zones.take 21).all (fun p=>eu p.zone&&decide (p.zone.apex.length<=100))=false:=by
   rw[<- Bool.not_eq_true,ay];intro h;rw[h p (ao (i:=k) (by rw[List.getElem?_take,if_pos hk];exact hp))]at hb;cases hb
  unfold mq;rw[this];simp
 refine ae (fun g1=>?_) (fun g1=>?_) <;> (rw[g1];conv=>whnf)
 . have hlt:k<w.zones.length:=by simpa using g1
   obtain⟨x,hx⟩:∃x,w.zones[k]? =some x:=⟨_,ah hlt⟩
   refine ae (fun g2=>?_) (fun g2=>?_) <;> (rw[g2];conv=>whnf)
   . have hk3:k<21:=by simp at g2;omega
     refine⟨aJ k,bZ x,aT hx,?_⟩
     conv=>whnf
     (refine⟨_,_,MS x.zone,?_⟩;conv=>whnf)
     refine ae (fun g3=>?_) (fun g3=>?_) <;> (rw[g3];conv=>whnf)
     . refine af rfl ?_;rw[no x hx hk3 (by simp_all)];rfl
     refine⟨aJ k,bZ x,aT hx,?_⟩
     conv=>whnf
     refine ae (fun g4=>?_) (fun g4=>?_) <;> (rw[g4];conv=>whnf)
     . refine af rfl ?_;rw[no x hx hk3 (by simp at g4;simp;omega)];rfl
     . refine⟨k+1,⟨hlt,by omega,?_⟩,by(show w.zones.length-(k+1)<w.zones.length-k;omega),an.keep ⟨⟨rfl,rfl⟩,⟨ar (by omega),rfl⟩,trivial⟩ ⟨⟨rfl,rfl⟩,trivial⟩⟩;rw[bw hx,List.all_append,hall];simp at g3 g4;simp[g3];omega
   . have:k=21:=by simp at g2;omega
     subst this;exact A6 w hall _ (an.keep ⟨⟨rfl,rfl⟩,trivial⟩ ⟨⟨rfl,rfl⟩,trivial⟩)
 . obtain rfl:k=w.zones.length:=by simp at g1;omega
   exact A6 w (by rw[List.take_length]at hall;rw[List.take_of_length_le hk2];exact hall) _ (an.keep ⟨⟨rfl,rfl⟩,trivial⟩ ⟨⟨rfl,rfl⟩,trivial⟩)
end Go.Proofs.YtcecidfnchcagaaGreatDoor
namespace NP
open NQ Go
end NP
namespace Go.Proofs.YtcecidfnchcagaaGreatDoor
open NQ Go NP Go.RowKit
theorem Mr(z:aP)(q:aW)(hf:eu z=true):NQ.Fn cx 84 [.agg (bo z), .agg (cm q)] (.tuple [.agg ((dv (bF z q).1).map .d), .d (.int .i64 (bF z q).2)]) []:=Mq hf q ▸ FU z q hf
end Go.Proofs.YtcecidfnchcagaaGreatDoor
namespace NP
open NQ Go
theorem Di{p q:ai}(hp:bD p.zone=true)(hq:bD q.zone=true):dg p q=(decide (iU p.zone>iU q.zone)||(decide (iU p.zone=iU q.zone)&&decide (p.host<q.host))):=by
 unfold dg dA;rw[hp,hq];rfl
theorem tk(zs : List ai)(q : aW)(f : Nat)(a : Bs) : iC zs (cw zs) q (f + 1) a = match ck zs a with
  | none=>(gr,false)
  | some x=>if ((bF x.2.zone q).1.kind != 4)=true then((bF x.2.zone q).1,true)else iC zs (cw zs) q f (bF x.2.zone q).1.cut:=by
 rw[iC,nA];cases h:ck zs a with
 | none=>rfl
 | some x =>
  simp only[Option.map_some];rw[vr zs a x h]
end NP
namespace Go.Proofs.YtcecidfnchcagaaGreatDoor
open NQ Go NP Go.RowKit
theorem AW(zs:List ai)(a:Bs)(hz:∀p∈zs,bD p.zone=true)(hl:zs.length<=100000):NQ.Fn cx 25 [.slice 3 (zs.map bZ), .str a] (.d (.int .i64 (Ks (ck zs a)))) []:=by
 refine aM bf mixed Tryz.func25 (by kernel_rfl) rfl (ag rfl) ?_;conv=>whnf
 refine⟨Nat×Option (Nat×ai),fun x=>⟨[(0, .d (.slice 3 (zs.map bZ))),(1, .d (.str a)),(5, .d (.int .i64 (Ks x.2))),(6, .d (.int .i64 x.1))],[]⟩,
  fun x=>x.1<=zs.length/\lC zs x.2/\gS (fun p=>p.zone.apex==a) dg x.1 (zs.drop x.1) x.2=ck zs a,fun x=>zs.length-x.1,
  ⟨(0,none),⟨Nat.zero_le _,(fun x hx=>by cases hx),rfl⟩,an.keep ⟨⟨rfl,rfl⟩,⟨rfl,rfl⟩,⟨rfl,rfl⟩,⟨rfl,rfl⟩,trivial⟩ trivial⟩,fun⟨k,b⟩ ⟨hk,hb,hinv⟩=>?_⟩
 dsimp only at hk hb hinv ⊢
 conv=>whnf
 refine ae (fun h1=>?_) (fun h1=>?_) <;> (rw[h1];conv=>whnf)
 . have hlt:k<zs.length:=by simpa using h1
   obtain⟨p,hp⟩:∃p,zs[k]? =some p:=⟨_,ah hlt⟩
   have hpv:=hz p (ao hp);rw[GG hp]at hinv;have next:∀b',b' =cJ (fun p=>p.zone.apex==a) dg k p b->(k+1<=zs.length/\lC zs b' /\gS (fun p=>p.zone.apex==a) dg (k+1) (zs.drop (k+1)) b' =ck zs a):=fun b' e=>by
    rw[e];exact⟨hlt,hb.step hp,hinv⟩
   refine⟨aJ k,bZ p,aT hp,?_⟩
   conv=>whnf
   refine ae (fun h2=>?_) (fun h2=>?_) <;> (rw[h2];conv=>whnf)
   . exact⟨(k+1,b),next _ (by unfold cJ;rw[if_neg (by simpa using h2)]),by(show zs.length-(k+1)<zs.length-k;omega),an.keep ⟨⟨rfl,rfl⟩,⟨rfl,rfl⟩,⟨rfl,rfl⟩,⟨ar (by omega),rfl⟩,trivial⟩ trivial⟩
   have ha:(p.zone.apex==a)=true:=by simpa using h2
   cases b with
   | none =>
    conv=>whnf
    exact⟨(k+1,some (k,p)),next _ (by unfold cJ;rw[if_pos ha]),by(show zs.length-(k+1)<zs.length-k;omega),an.keep ⟨⟨rfl,rfl⟩,⟨rfl,rfl⟩,⟨rfl,rfl⟩,⟨ar (by omega),rfl⟩,trivial⟩ trivial⟩
   | some x =>
    have hx:=hb x rfl;have hxv:=hz x.2 (ao hx);have hnew:=Di hpv hxv
    conv=>whnf
    refine⟨aJ k,bZ p,aT hp,?_⟩
    conv=>whnf
    (refine⟨_,_,uZ p.zone hpv,?_⟩;conv=>whnf)
    refine⟨aJ x.1,bZ x.2,aT hx,?_⟩
    conv=>whnf
    (refine⟨_,_,uZ x.2.zone hxv,?_⟩;conv=>whnf)
    (refine⟨(by kernel_rfl:bA _ _=true),?_⟩;conv=>whnf)
    repeat' (first
     | (refine ae (fun h=>?_) (fun h=>?_) <;> (rw[h];conv=>whnf))
     | (refine⟨aJ k,bZ p,aT hp,?_⟩;conv=>whnf)
     | (refine⟨aJ x.1,bZ x.2,aT hx,?_⟩;conv=>whnf)
     | fail)
    all_goals first
     | (refine⟨(k+1,some (k,p)),next _ (by unfold cJ;rw[if_pos ha];dsimp only;rw[if_pos (by rw[hnew];simp_all;done)]),by(show zs.length-(k+1)<zs.length-k;omega),an.keep ⟨⟨rfl,rfl⟩,⟨rfl,rfl⟩,⟨rfl,rfl⟩,⟨ar (by omega),rfl⟩,trivial⟩ trivial⟩;done)
     | (refine⟨(k+1,some x),next _ (by unfold cJ;rw[if_pos ha];dsimp only;rw[if_neg (by rw[hnew];simp_all;done)]),by(show zs.length-(k+1)<zs.length-k;omega),an.keep ⟨⟨rfl,rfl⟩,⟨rfl,rfl⟩,⟨rfl,rfl⟩,⟨ar (by omega),rfl⟩,trivial⟩ trivial⟩;done)
     | (refine⟨(k+1,some x),next _ (by unfold cJ;rw[if_pos ha];dsimp only;rw[if_neg (by rw[hnew];simp_all;omega)]),by(show zs.length-(k+1)<zs.length-k;omega),an.keep ⟨⟨rfl,rfl⟩,⟨rfl,rfl⟩,⟨rfl,rfl⟩,⟨ar (by omega),rfl⟩,trivial⟩ trivial⟩;done)
 . obtain rfl:k=zs.length:=by simp at h1;omega
   refine af rfl ?_;rw[<- hinv,List.drop_length];rfl
theorem Ff(zs:List ai)(q:aW)(hg:dq zs)(hq:bB q=true)(hl:zs.length<=100000) :
 NQ.Fn cx 109 [.slice 3 (zs.map bZ), .agg (cm q)] (.tuple [.agg ((dv (cq zs q).1).map .d), .d (.int .i64 (if (cq zs q).2=true then 0 else 34))]) []:=by
 refine aM bf mixed Tryz.func109 (by kernel_rfl) rfl (ag rfl) ?_;conv=>whnf
 have hz:∀p∈zs,bD p.zone=true:=fun p hp=>(hg p hp).2
 (refine⟨_,_,AW zs [46] hz hl,?_⟩;conv=>whnf)
 refine⟨Nat×Bs,fun x=>⟨[(0, .d (.slice 3 (zs.map bZ))),(3, .ptr 3 0),(4, .ptr 4 0),(6, .d (.int .i64 (Ks (ck zs x.2))))],[(3, .box ((cm q).map .d)),(4, .box [.d (.int .i64 0), .nil 5, .d (.str [])])]⟩,
  fun x=>aL q.name x.2=true/\(back q.name).length+1<=x.1+(back x.2).length/\iC zs (cw zs) q (x.1+1) x.2=cq zs q,fun x=>x.1,
  ⟨((back q.name).length+1,[46]),⟨ij q.name,by omega,rfl⟩,an.keep ⟨⟨rfl,rfl⟩,⟨rfl,rfl⟩,⟨rfl,rfl⟩,⟨rfl,rfl⟩,trivial⟩ ⟨⟨rfl,rfl⟩,⟨rfl,rfl⟩,trivial⟩⟩,fun⟨f,a⟩ ⟨hu,hf,hinv⟩=>?_⟩
 dsimp only at hu hf hinv ⊢;rw[tk]at hinv;cases hc:ck zs a with
 | none =>
  rw[hc]at hinv
  conv=>whnf
  refine af rfl ?_;rw[<- hinv];rfl
 | some x =>
  rw[hc]at hinv;have hx:=vr zs a x hc;have hg' :=hg x.2 (ao hx)
  conv=>whnf
  (refine⟨(by kernel_rfl:bA _ _=true),?_⟩;conv=>whnf)
  refine⟨aJ x.1,bZ x.2,aT hx,?_⟩
  conv=>whnf
  (refine⟨_,_,Mr x.2.zone q hg'.1,?_⟩;conv=>whnf)
  dsimp only at hinv;refine ae (fun h2=>?_) (fun h2=>?_) <;> (rw[h2];conv=>whnf)
  . have h2' :((bF x.2.zone q).1.kind != 4)=true:=h2;rw[if_pos h2']at hinv;refine af rfl ?_;rw[<- hinv];rfl
  . have h2' :((bF x.2.zone q).1.kind != 4)=false:=h2;rw[if_neg (by rw[h2'];simp)]at hinv;have hfi:de a (cw zs)=some x.1:=by rw[nA,hc];rfl
    obtain⟨u,r1,r2,r3⟩:=tq hg hq (nz zs) hu hf hfi hx h2';obtain⟨f,rfl⟩:∃g,f=g+1:=⟨f-1,by omega⟩
    (refine⟨_,_,AW zs (bF x.2.zone q).1.cut hz hl,?_⟩;conv=>whnf)
    exact⟨(f,(bF x.2.zone q).1.cut),⟨r1,by dsimp only;omega,hinv⟩,by(show f<f+1;omega),an.keep ⟨⟨rfl,rfl⟩,⟨rfl,rfl⟩,⟨rfl,rfl⟩,⟨rfl,rfl⟩,trivial⟩ ⟨⟨rfl,rfl⟩,⟨rfl,rfl⟩,trivial⟩⟩
theorem px(w:bS)(hF:kB w):NQ.Fn cx 54 [.agg (cH w)] (.d (.bool (cC w))) []:=zC w (by have:=hF.hosts;omega) (by have:=hF.zones;omega) (by have:=hF.hints;omega)
theorem Gg(w:bS)(hF:kB w):NQ.Fn cx 70 [.agg (cH w)] (.d (.bool (cC w))) []:=IL w (by have:=hF.hosts;omega) (by have:=hF.zones;omega) (by have:=hF.hints;omega) (fun p hp=>by have:=(dx (hF.few p hp)).1;omega)
end Go.Proofs.YtcecidfnchcagaaGreatDoor
namespace NP
open NQ Go
theorem IF{w:bS}{q:aW}(hv:cC w=true)(hq:bB q=true):kP w q=kx w.zones 9 q []:=by unfold kP;rw[if_neg (by rw[hv,hq];simp)]
end NP
namespace Go.Proofs.YtcecidfnchcagaaGreatDoor
open NQ Go NP Go.RowKit
end Go.Proofs.YtcecidfnchcagaaGreatDoor
namespace NP
open NQ Go
theorem y8{α:Type}[BEq α][LawfulBEq α]:∀{a b:List α},a.Nodup->(∀x∈a,x∈b)->a.length<=b.length
 | [],b,_,_=>Nat.zero_le _
 | x::t,b,hn,hs=>by
  have hx:=hs x (List.mem_cons_self ..);rw[List.nodup_cons]at hn;have:=y8 (b:=b.erase x) hn.2 fun y hy=>(List.mem_erase_of_ne (fun(e:y=x)=>hn.1 (e ▸ hy))).2 (hs y (aX _ hy))
  rw[List.length_erase_of_mem hx]at this;have h0:0<b.length:=List.length_pos_of_mem hx;rw[List.length_cons];omega
end NP
namespace Go.Proofs.YtcecidfnchcagaaGreatDoor
open NQ Go NP Go.RowKit
end Go.Proofs.YtcecidfnchcagaaGreatDoor
namespace NP
open NQ Go
theorem yF{ok:ai->Bool}{better:ai->ai->Bool}(hirr:∀p,better p p=false)(htr:∀p q r,better p q=true->better q r=true->better p r=true):∀(l:List ai) (i:Nat) (b:Option (Nat×ai)) (x:Nat×ai),gS ok better i l b=some x ->
 (b=some x\/(x.2∈l/\ok x.2=true))/\(∀e,(∀y,b=some y->better e y.2=false)->b ≠ none->better e x.2=false)/\ ∀p∈l,ok p=true->better p x.2=false
 | [],i,b,x,h=>by cases h;exact⟨.inl rfl,fun e he _=>he x rfl,fun p hp=>by cases hp⟩
 | p::t,i,b,x,h=>by
  have h' :gS ok better (i+1) t (cJ ok better i p b)=some x:=h;obtain⟨h1,h2,h3⟩:=yF hirr htr t (i+1) _ x h';by_cases hp:ok p=true
  . cases b with
    | none =>
     have e0:cJ ok better i p none=some (i,p):=by unfold cJ;rw[if_pos hp]
     rw[e0]at h1 h2;refine⟨.inr ?_,fun e he hb=>absurd rfl hb,fun q hq hoq=>?_⟩
     . rcases h1 with h1 | h1
       . cases h1;exact⟨List.mem_cons_self .., hp⟩
       . exact⟨aX _ h1.1,h1.2⟩
     . rcases List.mem_cons.1 hq with rfl | hq
       . exact h2 q (fun y hy=>by cases hy;exact hirr q) (by simp)
       . exact h3 q hq hoq
    | some y =>
     by_cases hbt:better p y.2=true
     . have e0:cJ ok better i p (some y)=some (i,p):=by unfold cJ;rw[if_pos hp];dsimp only;rw[if_pos hbt]
       rw[e0]at h1 h2;refine⟨.inr ?_,fun e he _=>?_,fun q hq hoq=>?_⟩
       . rcases h1 with h1 | h1
         . cases h1;exact⟨List.mem_cons_self .., hp⟩
         . exact⟨aX _ h1.1,h1.2⟩
       . refine h2 e (fun z hz=>?_) (by simp);cases hz;cases hc:better e p with
         | false=>rfl
         | true =>
          have:=htr e p y.2 hc hbt;rw[he y rfl]at this;cases this
       . rcases List.mem_cons.1 hq with rfl | hq
         . exact h2 q (fun z hz=>by cases hz;exact hirr q) (by simp)
         . exact h3 q hq hoq
     . have e0:cJ ok better i p (some y)=some y:=by unfold cJ;rw[if_pos hp];dsimp only;rw[if_neg hbt]
       rw[e0]at h1 h2;refine⟨h1.imp id fun h1=>⟨aX _ h1.1,h1.2⟩,fun e he hb=>h2 e he hb,fun q hq hoq=>?_⟩;rcases List.mem_cons.1 hq with rfl | hq
       . exact h2 q (fun z hz=>by cases hz;simpa using hbt) (by simp)
       . exact h3 q hq hoq
  . have e0:cJ ok better i p b=b:=by unfold cJ;rw[if_neg hp]
    rw[e0]at h1 h2;refine⟨h1.imp id fun h1=>⟨aX _ h1.1,h1.2⟩,h2,fun q hq hoq=>?_⟩;rcases List.mem_cons.1 hq with rfl | hq
    . exact absurd hoq hp
    . exact h3 q hq hoq
theorem y7(p q:ai):dg p q=true ↔ (dA q.zone).1<(dA p.zone).1\/((dA p.zone).1=(dA q.zone).1/\p.host<q.host):=by
 unfold dg;simp
theorem H5(p:ai):dg p p=false:=by
 rw[<- Bool.not_eq_true,y7];omega
theorem Kh(p q r:ai)(h:dg p q=true)(k:dg q r=true):dg p r=true:=by
 rw[y7]at h k ⊢;omega
theorem AX{zs:List ai}{a:Bs}{x:Nat×ai}(h:ck zs a=some x):x.2∈zs/\x.2.zone.apex=a/\ ∀p∈zs,p.zone.apex=a->dg p x.2=false:=by
 obtain⟨h1,_,h3⟩:=yF H5 Kh zs 0 none x h;rcases h1 with h1 | h1
 . cases h1
 . exact⟨h1.1,by simpa using h1.2,fun p hp ha=>h3 p hp (by simpa using ha)⟩
end NP
