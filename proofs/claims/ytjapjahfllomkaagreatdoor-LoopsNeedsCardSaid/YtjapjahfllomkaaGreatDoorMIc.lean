/-
  Texts of the proof, merged in build order.
-/
import Derived.Test.YtjapjahfllomkaaGreatDoorAbM
import Derived.Test.YtjapjahfllomkaaGreatDoorIbM
import Derived.Test.YtjapjahfllomkaaGreatDoorMIp
import Derived.Test.YtjapjahfllomkaaGreatDoorMQt
import Derived.Test.YtjapjahfllomkaaGreatDoorMGja
import Derived.Test.YtjapjahfllomkaaGreatDoorMVa
set_option linter.all false
set_option maxRecDepth 100000
namespace NP
open NQ Go
def xN(zs:List ag)(i:Nat):D:=match zs[i]? with | some p=> .agg [.int .i64 (fc p.zone).1, .int .i64 p.host] | none=> .agg [.int .i64 0, .int .i64 0]
def nv(zs:List ag)(i:Nat):D:=match zs[i]? with | some p=> .agg (bp p.zone) | none=> .agg (bp ⟨[],[]⟩)
theorem Cw{zs:List ag}{i:Nat}{p:ag}(h:zs[i]? =some p):xN zs i= .agg [.int .i64 (fc p.zone).1, .int .i64 p.host]:=by unfold xN;rw[h]
theorem Dd{zs:List ag}{i:Nat}{p:ag}(h:zs[i]? =some p):nv zs i= .agg (bp p.zone):=by unfold nv;rw[h]
def De(zs:List ag):List (List D×D):=(iM (nv zs) (dx zs)).map iB
def de(zs:List ag):List D:=[.kmap (De zs), .slice 1 ((aV zs).map aA)]
theorem nW(zs:List ag)(a:Bs):iv (.str a) (De zs)=some ((bX zs a).map fun x=> .agg (bp x.2.zone)):=by
 unfold De;rw[E7,pS];cases h:bX zs a with
 | none=>rfl
 | some x=>simp[Dd (v7 zs a x h)]
end NP
namespace Go.Proofs.YtjapjahfllomkaaGreatDoor
open NQ Go NP Go.RowKit
set_option maxHeartbeats 1000000 in
theorem Ch(w:bJ)(hz:∀p∈w.zones,aj p.zone.apex=true)(hl:w.zones.length<=100000):NQ.Fn cx 72 [.agg (cv w)] (.agg ((de w.zones).map .d)) []:=by
 refine cR (fun | 12=>[12] | _=>[]) bf mixed Tryz.func72 (by kernel_rfl) rfl (ah rfl) ?_;have hvk:∀p∈iM (nv w.zones) (dx w.zones),aj p.1=true:=fun p hp=>by
  obtain⟨y,hy,rfl⟩:=List.mem_map.1 hp;obtain⟨q,hq,ha⟩:=zr.1 (show y.1∈dL (dx w.zones)from List.mem_map.2 ⟨y,hy,rfl⟩);show aj y.1=true
  rw[<- ha];exact hz q hq
 conv=>whnf
 refine ⟨Nat × List (Bs × Nat), fun x => ⟨[(2, .ptr 2 0), (3, .omap 11), (4, .ptr 4 0), (15, .d (.slice 3 (w.zones.map b7))), (16, .d (.int .i64 ((w.zones.map b7).length : Int))), (17, .d (.int .i64 x.1))],
     [(2, .box [.d .nmap, .nil 1]),(11, .smap (iM (xN w.zones) x.2)),(4, .box [.omap 12, .nil 1]),(12, .smap (iM (nv w.zones) x.2))]⟩,
  fun x=>x.1<=w.zones.length/\jq w.zones x.2/\iz w.zones x.1 (w.zones.drop x.1) x.2=dx w.zones,fun x=>w.zones.length-x.1,
  ⟨(0,[]),⟨Nat.zero_le _,(fun a j h=>by cases h),rfl⟩,an.keep ⟨⟨rfl,rfl⟩,⟨rfl,rfl⟩,⟨rfl,rfl⟩,⟨rfl,rfl⟩,⟨rfl,rfl⟩,⟨rfl,rfl⟩,trivial⟩ ⟨⟨rfl,rfl⟩,⟨rfl,rfl⟩,⟨rfl,rfl⟩,⟨rfl,rfl⟩,trivial⟩⟩,fun⟨k,m⟩ ⟨hk,hok,hinv⟩=>?_⟩
 dsimp only at hk hok hinv ⊢
 conv=>whnf
 refine ae (fun h1=>?_) (fun h1=>?_) <;> (rw[h1];conv=>whnf)
 . have hlt:k<w.zones.length:=by simpa using h1
   obtain⟨x,hx⟩:∃x,w.zones[k]? =some x:=⟨_,ai hlt⟩
   rw[Jo hx]at hinv;have again:∀m',(m' =if gn w.zones m x=true then fC x.zone.apex k m else m)->(k+1<=w.zones.length/\jq w.zones m' /\iz w.zones (k+1) (w.zones.drop (k+1)) m' =dx w.zones):=fun m' e=>by
    refine⟨hlt,?_,by rw[e];exact hinv⟩;rw[e];split
    . exact hok.put hx
    . exact hok
   have Lh:cH x.zone.apex (.agg [.int .i64 (fc x.zone).1, .int .i64 x.host]) (iM (xN w.zones) m)=iM (xN w.zones) (fC x.zone.apex k m):=by rw[<- Cw hx,yZ]
   have rQ:cH x.zone.apex (.agg (bp x.zone)) (iM (nv w.zones) m)=iM (nv w.zones) (fC x.zone.apex k m):=by rw[<- Dd hx,yZ]
   refine⟨aH k,b7 x,aU hx,?_⟩
   conv=>whnf
   (refine⟨_,_,Jb x.zone,?_⟩;conv=>whnf)
   rw[CS];cases hf:eu x.zone.apex m with
   | none =>
    have ht:gn w.zones m x=true:=by unfold gn;rw[hf]
    conv=>whnf
    refine⟨(k+1,fC x.zone.apex k m),again _ (by rw[if_pos ht]),by(show w.zones.length-(k+1)<w.zones.length-k;omega),an.keep ⟨⟨rfl,rfl⟩,⟨rfl,rfl⟩,⟨rfl,rfl⟩,⟨rfl,rfl⟩,⟨rfl,rfl⟩,⟨au (by omega),rfl⟩,trivial⟩ ⟨⟨rfl,rfl⟩,⟨congrArg (fun m=>some (Blk.smap m)) Lh,rfl⟩,⟨rfl,rfl⟩,⟨congrArg (fun m=>some (Blk.smap m)) rQ,rfl⟩,trivial⟩⟩
   | some j =>
    obtain⟨p,hp,hpa⟩:=hok _ j hf;have ht:gn w.zones m x=du x p:=by unfold gn;rw[hf];dsimp only;rw[hp]
    simp only[Option.map_some,Cw hp]
    conv=>whnf
    have yes:du x p=true->_:=fun h=>again (fC x.zone.apex k m) (by rw[if_pos (ht.trans h)])
    have no:du x p=false->_:=fun h=>again m (by rw[if_neg (by rw[ht.trans h];simp)])
    repeat' (first
     | (refine ae (fun h=>?_) (fun h=>?_) <;> (rw[h];conv=>whnf))
     | fail)
    all_goals first
     | (refine⟨(k+1,fC x.zone.apex k m),yes (by unfold du;simp_all;done),by(show w.zones.length-(k+1)<w.zones.length-k;omega),an.keep ⟨⟨rfl,rfl⟩,⟨rfl,rfl⟩,⟨rfl,rfl⟩,⟨rfl,rfl⟩,⟨rfl,rfl⟩,⟨au (by omega),rfl⟩,trivial⟩ ⟨⟨rfl,rfl⟩,⟨congrArg (fun m=>some (Blk.smap m)) Lh,rfl⟩,⟨rfl,rfl⟩,⟨congrArg (fun m=>some (Blk.smap m)) rQ,rfl⟩,trivial⟩⟩;done)
     | (refine⟨(k+1,m),no (by unfold du;simp_all;done),by(show w.zones.length-(k+1)<w.zones.length-k;omega),an.keep ⟨⟨rfl,rfl⟩,⟨rfl,rfl⟩,⟨rfl,rfl⟩,⟨rfl,rfl⟩,⟨rfl,rfl⟩,⟨au (by omega),rfl⟩,trivial⟩ ⟨⟨rfl,rfl⟩,⟨rfl,rfl⟩,⟨rfl,rfl⟩,⟨rfl,rfl⟩,trivial⟩⟩;done)
 . obtain rfl:k=w.zones.length:=by simp at h1;omega
   rw[List.drop_length]at hinv;obtain rfl:m=dx w.zones:=hinv
   (refine⟨_,_,MV (iM (nv w.zones) (dx w.zones)),?_⟩;conv=>whnf)
   have hkeys:(iM (nv w.zones) (dx w.zones)).map (·.1)=dL (dx w.zones):=by unfold iM dL;rw[List.map_map];rfl
   (refine⟨_,_,Ax (iM (nv w.zones) (dx w.zones)) (by rw[hkeys];exact tY _) hvk (by unfold iM;rw[ao];have:=x6 w.zones;omega),?_⟩;conv=>whnf)
   rw[hkeys];exact af rfl rfl
end Go.Proofs.YtjapjahfllomkaaGreatDoor
namespace NP
open NQ Go
theorem JU:(back [46]).length=0:=by decide
theorem Ag(l:List (Bs×Ans))(x:List D)(h:x∈l.map ug):x.length=2:=by
 obtain⟨p,_,rfl⟩:=List.mem_map.1 h;rfl
theorem zP(zs:List ag)(q:bg):gE zs q=match (iC zs q).find? (fun p=>p.2.kind != 4)with | some p=>(p.2,true) | none=>(lp,false):=E9 zs q _ _
end NP
namespace Go.Proofs.YtjapjahfllomkaaGreatDoor
open NQ Go NP Go.RowKit
theorem C9(zs:List ag)(q:bg)(hg:eP zs)(hq:bZ q=true):GX cx 254 [.ptr (de zs), .ptr (cT q)] ((iC zs q).map ug):=by
 refine vi (fun | 4=>[77777] | _=>[]) bf mixed Tryz.func254 (by kernel_rfl) rfl rfl (ah rfl) ?_
 conv=>whnf
 refine⟨rfl,?_⟩
 conv=>whnf
 refine⟨Nat×Nat×Bs,fun x=>((x.1,true),⟨[(1, .d (.ptr (de zs))),(2, .d (.ptr (cT q))),(4, .d (.str x.2.2))],[]⟩),
  fun x=>x.1<=(iC zs q).length/\jo zs q x.2.1 x.2.2=(iC zs q).drop x.1/\aG q.name x.2.2=true/\(back q.name).length+2<=x.2.1+(back x.2.2).length,fun x=>x.2.1,
  ⟨(0,(back q.name).length+2,[46]),⟨Nat.zero_le _,rfl,iP _,by rw[JU];exact Nat.le_refl _⟩,rfl,an.keep ⟨⟨rfl,rfl⟩,⟨rfl,rfl⟩,⟨rfl,rfl⟩,trivial⟩ trivial⟩,fun⟨k,f,a⟩ ⟨hk,hw,hu,hf⟩=>?_⟩
 dsimp only at hk hw hu hf ⊢
 conv=>whnf
 refine⟨rfl,?_⟩
 conv=>whnf
 refine⟨_,nW zs a,?_⟩;cases hc:bX zs a with
 | none =>
  rw[lD hc]at hw;have hk' :k=(iC zs q).length:=by
   have:=congrArg List.length hw;simp at this;omega
  repeat' (first | (refine⟨rfl,?_⟩;conv=>whnf) | fail)
  refine⟨trivial,fun _=>?_⟩;show k=((iC zs q).map ug).length
  rw[hk',ao]
 | some x =>
  obtain⟨f,rfl⟩:∃g,f=g+1:=⟨f-1,by
   have:=((dN _ _).1 hu).length_le;omega⟩
  rw[lE hc]at hw;have u:=qV hg hq hu hc;have hget:(iC zs q)[k]? =some (a,(bG x.2.zone q).1):=by
   have:=congrArg (fun l:List (Bs×Ans)=>l[0]?) hw;simp only[List.getElem?_cons_zero,List.getElem?_drop,Nat.add_zero]at this;exact this.symm
  have hkl:=(ar.1 hget).1;have hrest:(if ((bG x.2.zone q).1.kind != 4)=true then[]else jo zs q f (bG x.2.zone q).1.cut)=(iC zs q).drop (k+1):=by
   have:=congrArg List.tail hw;rw[List.tail_cons,List.tail_drop]at this;exact this
  repeat' (first | (refine⟨rfl,?_⟩;conv=>whnf) | (refine⟨_,_,wV x.2.zone q (by have:=(dH u.few).1;omega),?_⟩;conv=>whnf) | fail)
  refine⟨ug (a,(bG x.2.zone q).1),_,⟨by rw[aT,hget];rfl,rfl⟩,rfl,fun b=>?_⟩
  conv=>whnf
  cases b with
  | true =>
   repeat' (first | (refine⟨rfl,?_⟩;conv=>whnf) | (refine ae (fun h=>?_) (fun h=>?_) <;> (rw[h];conv=>whnf)) | fail)
   . refine⟨trivial,fun _=>?_⟩;rw[if_pos h]at hrest;have:=congrArg List.length hrest;simp at this;show k+1=((iC zs q).map ug).length
     rw[ao];omega
   . rw[if_neg (by rw[show((bG x.2.zone q).1.kind != 4)=false from h];simp)]at hrest;obtain⟨d1,d2,_⟩:=gJ u h;rw[(ky hc).2]at d2;exact⟨(k+1,f,(bG x.2.zone q).1.cut),⟨hkl,hrest,d1,by dsimp only;omega⟩,by(show f<f+1;omega),rfl,an.keep ⟨⟨rfl,rfl⟩,⟨rfl,rfl⟩,⟨rfl,rfl⟩,trivial⟩ trivial⟩
  | false =>
   repeat' (first | (refine⟨rfl,?_⟩;conv=>whnf) | fail)
   exact⟨trivial,fun h=>by cases h⟩
theorem JD(zs:List ag)(q:bg):NQ.Fn cx 197 [.agg (de zs), .agg (cT q)] (.d (.fn 254 [] [.ptr (de zs), .ptr (cT q)])) []:=by
 refine aO bf mixed Tryz.func197 (by kernel_rfl) rfl (ah rfl) ?_;conv=>whnf
 exact af rfl rfl
end Go.Proofs.YtjapjahfllomkaaGreatDoor
namespace NQ
theorem qG{fx:List Nat}{h:List (Nat×Blk)}(e:fx.all (fun s=>(find h s).isSome)=true):∀s∈fx,live h s:=fun s hs=>ax.1 e s hs
theorem Hj{fx:List Nat}{h:List (Nat×Blk)}(e:fx.all (fun s=>Nat.ble 100000 s&&(match find h s with | some b=>xK b | none=>false))=true):∀s∈fx,100000<=s/\ ∃b,find h s=some b/\xK b=true:=fun s hs=>by
 have:=ax.1 e s hs;rw[aP]at this;refine⟨ah this.1,?_⟩;have h2:=this.2;split at h2
 . rename_i b e;exact⟨b,e,h2⟩
 . cases h2
end NQ
namespace NP
open NQ Go
theorem Da{zs:List ag}{q:bg}:∀(f:Nat) (a:Bs) (p:Bs×Ans),p∈jo zs q f a->(p.2.kind != 4)=true->(jo zs q f a).find? (fun p=>p.2.kind != 4)=some p
 | 0,a,p,hp,_=>by cases hp
 | f+1,a,p,hp,hk=>by
  cases h:bX zs a with
  | none=>rw[lD h]at hp;cases hp
  | some x =>
   rw[lE h]at hp ⊢;cases hx:((bG x.2.zone q).1.kind != 4)with
   | true =>
    rw[hx,if_pos rfl]at hp;rw[List.find?_cons_of_pos (p:=fun p:Bs×Ans=>p.2.kind != 4) hx,List.mem_singleton.1 hp]
   | false =>
    rw[hx,if_neg (by simp)]at hp;rw[List.find?_cons_of_neg (p:=fun p:Bs×Ans=>p.2.kind != 4) (by simp[hx]),if_neg (by simp)];rcases List.mem_cons.1 hp with rfl | hp
    . rw[hx]at hk;cases hk
    . exact Da f _ p hp hk
theorem C8{zs:List ag}{q:bg}(hg:eP zs)(hq:bZ q=true):∀(f:Nat) (a:Bs),aG q.name a=true-> ∀p∈jo zs q f a,(p.2.kind != 4)=false->(back a).length<(back p.2.cut).length
 | 0,a,_,p,hp,_=>by cases hp
 | f+1,a,hu,p,hp,hk=>by
  cases h:bX zs a with
  | none=>rw[lD h]at hp;cases hp
  | some x =>
   rw[lE h]at hp;have u:=qV hg hq hu h;rcases List.mem_cons.1 hp with rfl | hp
   . obtain⟨_,d2,_⟩:=gJ u hk;rw[(ky h).2]at d2;exact d2
   . cases hx:((bG x.2.zone q).1.kind != 4)with
     | true=>rw[hx,if_pos rfl]at hp;cases hp
     | false =>
      rw[hx,if_neg (by simp)]at hp;obtain⟨d1,d2,_⟩:=gJ u hx;rw[(ky h).2]at d2;have:=C8 hg hq f _ d1 p hp hk;omega
theorem Fa{zs:List ag}{q:bg}(hg:eP zs)(hq:bZ q=true){c:Bs}:∀(f:Nat) (a:Bs),aG q.name a=true-> ∀p∈jo zs q f a,fX c p=true->(jo zs q f a).find? (fX c)=some p
 | 0,a,_,p,hp,_=>by cases hp
 | f+1,a,hu,p,hp,hk=>by
  cases h:bX zs a with
  | none=>rw[lD h]at hp;cases hp
  | some x =>
   rw[lE h]at hp ⊢;have u:=qV hg hq hu h;cases hx:((bG x.2.zone q).1.kind != 4)with
   | true =>
    rw[hx,if_pos rfl]at hp;rw[List.mem_singleton.1 hp]at hk ⊢;rw[List.find?_cons_of_pos hk]
   | false =>
    rw[hx,if_neg (by simp)]at hp;rw[if_neg (by simp)];obtain⟨d1,d2,_⟩:=gJ u hx;rcases List.mem_cons.1 hp with rfl | hp
    . rw[List.find?_cons_of_pos hk]
    . have hk' :=hk;unfold fX at hk';simp only[aP,beq_iff_eq]at hk';have:=C8 hg hq f _ d1 p hp (by rw[hk'.1];rfl);rw[List.find?_cons_of_neg,Fa hg hq f _ d1 p hp hk];intro hc;unfold fX at hc;simp only[aP,beq_iff_eq]at hc;rw[hk'.2,hc.2]at this;omega
def qz:Option (Bs×Ans)->Bs×Ans×Bool
 | some p=>(p.1,p.2,true)
 | none=>([],lp,false)
end NP
namespace Go.Proofs.YtjapjahfllomkaaGreatDoor
open NQ Go NP Go.RowKit
theorem FJ(zs:List ag)(q:bg)(hg:eP zs)(hq:bZ q=true):NQ.Fn cx 127 [.agg (de zs), .agg (cT q)] (.tuple [.agg ((dw (gE zs q).1).map .d), .d (.bool (gE zs q).2)]) []:=by
 refine pC (fun _=>[]) bf mixed Tryz.func127 (by kernel_rfl) rfl (ah rfl) ?_
 conv=>whnf
 (refine⟨_,_,JD zs q,?_⟩;conv=>whnf)
 refine⟨254,_,uB _,[(4, .ptr 100004 0),(5, .ptr 100005 0),(10, .d (.fn 254 [] [.ptr (de zs), .ptr (cT q)]))],
  Unit,(),fun _ _=>[(100004, .box [.d (.int .i64 0), .nil 5, .d (.str [])]),(100005, .box [.d (.bool false)])],[100004,100005],
  fun(k:Nat) _=> ∀j p,j<k->(iC zs q)[j]? =some p->(p.2.kind != 4)=false,
  (gZ.ren [4,5] (by kernel_rfl)).trans (an.zero (an.keep ⟨⟨(by kernel_rfl),(by kernel_rfl)⟩,⟨(by kernel_rfl),(by kernel_rfl)⟩,⟨(by kernel_rfl),(by kernel_rfl)⟩,trivial⟩ ⟨⟨(by kernel_rfl),(by kernel_rfl)⟩,⟨(by kernel_rfl),(by kernel_rfl)⟩,trivial⟩)),
  ⟨rfl,C9 zs q hg hq,fun k x k' hx=>Ag _ x (aq hx.1),rfl,rfl⟩,⟨ah rfl,Hj (by kernel_rfl),rfl,by kernel_rfl⟩,fun j p (h:j<0)=>by omega,fun k x k' _ ⟨hx,hkk⟩ hN=>?_,fun kf _ hkf hN=>?_⟩
 . obtain rfl:k' =k+1:=hkk;rw[aT]at hx;cases hp:(iC zs q)[k]? with
   | none=>rw[hp]at hx;cases hx
   | some p =>
    rw[hp]at hx;cases hx
    conv=>whnf
    refine ae (fun h1=>?_) (fun h1=>?_) <;> (rw[h1];conv=>whnf)
    . refine⟨[(100004, .box ((dw p.2).map .d)),(100005, .box [.d (.bool true)])],an.keep trivial ⟨⟨(by kernel_rfl),(by kernel_rfl)⟩,⟨(by kernel_rfl),(by kernel_rfl)⟩,trivial⟩,qG (by kernel_rfl),af rfl ?_⟩;have e:gE zs q=(p.2,true):=by
       rw[zP];have:=Da _ _ p (aq hp) h1;unfold iC;rw[this]
      rw[e];rfl
    . refine⟨(),⟨an.keep trivial ⟨⟨(by kernel_rfl),(by kernel_rfl)⟩,⟨(by kernel_rfl),(by kernel_rfl)⟩,trivial⟩,qG (by kernel_rfl)⟩,fun j r hj hr=>?_⟩;rcases Nat.lt_succ_iff_lt_or_eq.1 hj with hj | rfl
      . exact hN j r hj hr
      . rw[hp]at hr;cases hr;exact h1
 . obtain rfl:kf=_:=hkf
   conv=>whnf
   refine af rfl ?_;have e:gE zs q=(lp,false):=by
    rw[zP];have:(iC zs q).find? (fun p=>p.2.kind != 4)=none:=List.find?_eq_none.2 fun p hp=>by
     obtain⟨j,hj⟩:=b5 hp;rw[hN j p (by rw[ao];exact(ar.1 hj).1) hj];simp
    rw[this]
   rw[e];rfl
set_option maxHeartbeats 1000000 in
theorem zg(zs:List ag)(a:Bs)(hg:eP zs)(ha:aj a=true) :
 NQ.Fn cx 136 [.agg (de zs), .str a] (.tuple [.d (.str (qz (cK zs a)).1), .agg ((dw (qz (cK zs a)).2.1).map .d), .d (.bool (qz (cK zs a)).2.2)]) []:=by
 refine pC (fun | 7=>[55555,66666] | _=>[]) bf mixed Tryz.func136 (by kernel_rfl) rfl (ah rfl) ?_
 conv=>whnf
 refine ae (fun h0=>?_) (fun h0=>?_) <;> (rw[h0];conv=>whnf)
 . have e:cK zs a=none:=by unfold cK;rw[if_pos (by simpa using h0)]
   rw[e];exact af rfl rfl
 have hne:a ≠ [46]:=by simpa using h0
 have hd:cK zs a=(iC zs ⟨a,2⟩).find? (fX a):=by unfold cK;rw[if_neg hne]
 have hq:bZ ⟨a,2⟩=true:=xM ha
 (refine⟨_,_,JD zs ⟨a,2⟩,?_⟩;conv=>whnf)
 refine⟨254,_,uB _,[(3, .ptr 100003 0),(4, .ptr 100004 0),(5, .ptr 100005 0),(6, .ptr 100006 0),(15, .d (.fn 254 [] [.ptr (de zs), .ptr (cT ⟨a,2⟩)]))],
  Unit,(),fun _ _=>[(100003, .box [.d (.str a)]),(100004, .box [.d (.str [])]),(100005, .box [.d (.int .i64 0), .nil 5, .d (.str [])]),(100006, .box [.d (.bool false)])],[100003,100004,100005,100006],
  fun(k:Nat) _=> ∀j p,j<k->(iC zs ⟨a,2⟩)[j]? =some p->fX a p=false,
  (gZ.ren [3,4,5,6] (by kernel_rfl)).trans (an.zero (an.keep ⟨⟨(by kernel_rfl),(by kernel_rfl)⟩,⟨(by kernel_rfl),(by kernel_rfl)⟩,⟨(by kernel_rfl),(by kernel_rfl)⟩,⟨(by kernel_rfl),(by kernel_rfl)⟩,⟨(by kernel_rfl),(by kernel_rfl)⟩,trivial⟩ ⟨⟨(by kernel_rfl),(by kernel_rfl)⟩,⟨(by kernel_rfl),(by kernel_rfl)⟩,⟨(by kernel_rfl),(by kernel_rfl)⟩,⟨(by kernel_rfl),(by kernel_rfl)⟩,trivial⟩)),
  ⟨rfl,C9 zs _ hg hq,fun k x k' hx=>Ag _ x (aq hx.1),rfl,rfl⟩,⟨ah rfl,Hj (by kernel_rfl),rfl,by kernel_rfl⟩,fun j p (h:j<0)=>by omega,fun k x k' _ ⟨hx,hkk⟩ hN=>?_,fun kf _ hkf hN=>?_⟩
 . obtain rfl:k' =k+1:=hkk;rw[aT]at hx;cases hp:(iC zs ⟨a,2⟩)[k]? with
   | none=>rw[hp]at hx;cases hx
   | some p =>
    rw[hp]at hx;cases hx;have next:fX a p=false-> ∀j r,j<k+1->(iC zs ⟨a,2⟩)[j]? =some r->fX a r=false:=fun hc j r hj hr=>by
     rcases Nat.lt_succ_iff_lt_or_eq.1 hj with hj | rfl
     . exact hN j r hj hr
     . rw[hp]at hr;cases hr;exact hc
    have yes:fX a p=true->cK zs a=some p:=fun hc=>by
     rw[hd];unfold iC;exact Fa hg hq _ _ (iP _) p (aq hp) hc
    conv=>whnf
    refine ae (fun h1=>?_) (fun h1=>?_) <;> (rw[h1];conv=>whnf)
    case refine_2 =>
     exact⟨(),⟨an.keep trivial ⟨⟨(by kernel_rfl),(by kernel_rfl)⟩,⟨(by kernel_rfl),(by kernel_rfl)⟩,⟨(by kernel_rfl),(by kernel_rfl)⟩,⟨(by kernel_rfl),(by kernel_rfl)⟩,trivial⟩,qG (by kernel_rfl)⟩,next (by unfold fX;rw[show(p.2.kind==4)=false from h1];rfl)⟩
    refine ae (fun h2=>?_) (fun h2=>?_) <;> (rw[h2];conv=>whnf)
    case refine_2 =>
     exact⟨(),⟨an.keep trivial ⟨⟨(by kernel_rfl),(by kernel_rfl)⟩,⟨(by kernel_rfl),(by kernel_rfl)⟩,⟨(by kernel_rfl),(by kernel_rfl)⟩,⟨(by kernel_rfl),(by kernel_rfl)⟩,trivial⟩,qG (by kernel_rfl)⟩,next (by unfold fX;rw[show(p.2.cut==a)=false from h2];exact aB _)⟩
    refine⟨⟨[(3, .ptr 100003 0),(4, .ptr 100004 0),(5, .ptr 100005 0),(6, .ptr 100006 0),(7, .d (.str p.1)),(8, .ptr 8 0)],[(100003, .box [.d (.str a)]),(100004, .box [.d (.str [])]),(100005, .box [.d (.int .i64 0), .nil 5, .d (.str [])]),(100006, .box [.d (.bool false)]),(8, .box ((dw p.2).map .d))]⟩,
     an.keep ⟨⟨(by kernel_rfl),(by kernel_rfl)⟩,⟨(by kernel_rfl),(by kernel_rfl)⟩,⟨(by kernel_rfl),(by kernel_rfl)⟩,⟨(by kernel_rfl),(by kernel_rfl)⟩,⟨(by kernel_rfl),(by kernel_rfl)⟩,⟨(by kernel_rfl),(by kernel_rfl)⟩,trivial⟩ ⟨⟨(by kernel_rfl),(by kernel_rfl)⟩,⟨(by kernel_rfl),(by kernel_rfl)⟩,⟨(by kernel_rfl),(by kernel_rfl)⟩,⟨(by kernel_rfl),(by kernel_rfl)⟩,⟨(by kernel_rfl),(by kernel_rfl)⟩,trivial⟩,?_⟩
    conv=>whnf
    (refine⟨(by kernel_rfl:gV _=true),?_⟩;conv=>whnf)
    have fin : ∀ st, an cx st ⟨[], [(100003, .box [.d (.str a)]), (100004, .box [.d (.str p.1)]), (100005, .box ((dw p.2).map .d)), (100006, .box [.d (.bool true)])]⟩ -> ∃ hx, an cx st ⟨[], hx⟩ /\ (∀ s ∈ [100003, 100004, 100005, 100006], live hx s) /\
        tN cx Tryz.f136.results.toList (.tuple [.d (.str (qz (cK zs a)).1), .agg ((dw (qz (cK zs a)).2.1).map .d), .d (.bool (qz (cK zs a)).2.2)]) [] ⟨[(3, .ptr 100003 0),(4, .ptr 100004 0),(5, .ptr 100005 0),(6, .ptr 100006 0),(15, .d (.fn 254 [] [.ptr (de zs), .ptr (cT ⟨a,2⟩)]))],hx⟩:=fun st hst=>by
     refine⟨_,hst,qG (by kernel_rfl),af rfl ?_⟩;rw[yes (by unfold fX;rw[show(p.2.kind==4)=true from h1,show(p.2.cut==a)=true from h2];rfl)];rfl
    repeat' (first
     | (exact fin _ (an.keep trivial ⟨⟨(by kernel_rfl),(by kernel_rfl)⟩,⟨(by kernel_rfl),(by kernel_rfl)⟩,⟨(by kernel_rfl),(by kernel_rfl)⟩,⟨(by kernel_rfl),(by kernel_rfl)⟩,trivial⟩))
     | (refine⟨by kernel_rfl,?_⟩;conv=>whnf)
     | (refine⟨?_,?_⟩ <;> (conv=>whnf))
     | fail)
 . obtain rfl:kf=_:=hkf
   conv=>whnf
   refine af rfl ?_;have e:cK zs a=none:=by
    rw[hd];exact List.find?_eq_none.2 fun p hp=>by
     obtain⟨j,hj⟩:=b5 hp;rw[hN j p (by rw[ao];exact(ar.1 hj).1) hj];simp
   rw[e];rfl
theorem BE(zs:List ag)(s:Bs)(hv:aj s=true):NQ.Fn cx 138 [.agg (de zs), .str s] (.tuple [.d (.str ((ff zs s).getD [])), .d (.bool (ff zs s).isSome)]) []:=by
 refine aO bf mixed Tryz.func138 (by kernel_rfl) rfl (ah rfl) ?_;conv=>whnf
 refine⟨Bs,fun n=>⟨[(1, .d (.str n)),(2, .ptr 2 0)],[(2, .box ((de zs).map .d))]⟩,
  fun n=>aj n=true/\rB zs ((bd n).length+1) n=ff zs s,fun n=>(bd n).length,
  ⟨s,⟨hv,rfl⟩,an.keep ⟨⟨rfl,rfl⟩,⟨rfl,rfl⟩,trivial⟩ ⟨⟨rfl,rfl⟩,trivial⟩⟩,fun n ⟨hvn,hn⟩=>?_⟩
 dsimp only at hvn hn ⊢
 conv=>whnf
 refine⟨_,nW zs n,?_⟩;unfold rB at hn;cases hc:bX zs n with
 | some x =>
  have hn:some n=ff zs s:=by rw[if_pos (by rw[hc];rfl)]at hn;exact hn
  conv=>whnf
  refine af rfl ?_;rw[<- hn];rfl
 | none =>
  have hn:(if n=[46]then none else rB zs (bd n).length (cw n))=ff zs s:=by rw[if_neg (by rw[hc];simp)]at hn;exact hn
  conv=>whnf
  (refine⟨_,_,sv n,?_⟩;conv=>whnf)
  by_cases h46:n=[46]
  . rw[if_pos h46]at hn;have hp:dU n=([],4):=by unfold dU;rw[if_pos hvn,if_pos h46]
    rw[hp]
    conv=>whnf
    refine af rfl ?_;rw[<- hn];rfl
  . rw[if_neg h46]at hn;have hp:dU n=(cw n,0):=by unfold dU;rw[if_pos hvn,if_neg h46]
    rw[hp]
    conv=>whnf
    obtain⟨_,_,h3⟩:=kg hvn (iP n) h46;exact⟨cw n,⟨eV hvn,by rw[h3];exact hn⟩,by(show(bd (cw n)).length<(bd n).length;omega),an.keep ⟨⟨rfl,rfl⟩,⟨rfl,rfl⟩,trivial⟩ ⟨⟨rfl,rfl⟩,trivial⟩⟩
end Go.Proofs.YtjapjahfllomkaaGreatDoor
namespace NP
open NQ Go
def jt(cut:Bs)(s:Signed):Bool:=(s.set.type==2)&&(s.set.name==cut)
def gj(cut:Bs)(l:List Signed):List Bs:=(l.filter (jt cut)).flatMap fun s=>s.set.data.map (·.text)
theorem vg(cut:Bs)(l:List Signed)(s:Signed):gj cut (l++[s])=gj cut l++(if jt cut s=true then s.set.data.map (·.text)else[]):=by
 unfold gj;rw[List.filter_append,List.flatMap_append];by_cases h:jt cut s=true
 . rw[if_pos h,List.filter_cons_of_pos h];simp
 . rw[if_neg h,List.filter_cons_of_neg h];simp
theorem xq(cut:Bs):∀l:List Signed,(∀s∈l,s.set.data.length<=100)->(gj cut l).length<=100*l.length
 | [],_=>by simp[gj]
 | s::t,h=>by
  have ih:=xq cut t fun x hx=>h x (aW _ hx)
  have hs:=h s (List.mem_cons_self ..);unfold gj at ih ⊢;by_cases e:jt cut s=true
  . rw[List.filter_cons_of_pos e,List.flatMap_cons];simp only[List.length_append,ao,List.length_cons];omega
  . rw[List.filter_cons_of_neg e];simp only[List.length_cons];omega
def iE(l:List Signed):List (Bs×D):=l.foldl (fun m s=>if (s.set.type==1)=true then cH s.set.name (.bool true) m else m) []
theorem xn(l:List Signed)(s:Signed):iE (l++[s])=if (s.set.type==1)=true then cH s.set.name (.bool true) (iE l)else iE l:=by unfold iE;rw[List.foldl_append];rfl
theorem BQ(n:Bs):∀(l:List Signed) (m:List (Bs×D)),cG n (l.foldl (fun m s=>if (s.set.type==1)=true then cH s.set.name (.bool true) m else m) m)=if (l.any fun s=>(s.set.type==1)&&(s.set.name==n))=true then some (.bool true)else cG n m
 | [],m=>by simp
 | s::t,m=>by
  rw[List.foldl_cons,BQ n t,List.any_cons];cases ht:t.any fun s=>(s.set.type==1)&&(s.set.name==n)with
  | true=>rw[aL];rfl
  | false =>
   rw[aC,if_neg (by simp)];cases h1:(s.set.type==1)with
   | true =>
    rw[if_pos rfl,r7,aE];by_cases hn:n=s.set.name
    . rw[if_pos hn,hn];simp
    . rw[if_neg hn,if_neg (by simp;exact fun e=>hn e.symm)]
   | false=>rw[if_neg (by simp),aF];simp
theorem FT(a:Ans)(n:Bs):cG n (iE a.sets)=if eo a n=true then some (.bool true)else none:=by
 unfold iE;rw[BQ];rfl
theorem yT(a:Bs):∀m:List (Bs×D),iv (.str a) (m.map iB)=some (cG a m)
 | []=>rfl
 | (b,v)::t=>by
  show(match gu (.str a) [.tuple [.str b]]with | some true=>_ | some false=>iv (.str a) (t.map iB) | none=>none)=_
  have:gu (.str a) [.tuple [.str b]]=some (a==b):=rfl;rw[this];show _=some (if a=b then some v else cG a t)
  by_cases h:a=b
  . subst h;simp
  . have:(a==b)=false:=by simp[h]
    rw[this,if_neg h];exact yT a t
theorem BR(a:Ans)(n:Bs):iv (.str n) ((iE a.sets).map iB)=some (if eo a n=true then some (.bool true)else none):=by rw[yT,FT]
theorem Gb(zs:List ag)(a:Ans)(l:List Bs)(n:Bs):eG zs a (l++[n])=eG zs a l++(match (if eo a n=true then none else ff zs n)with | some h=>[h] | none=>[]):=by
 unfold eG;rw[List.filterMap_append]
 congr 1
 rw[List.filterMap_cons];split <;> simp_all
theorem zC(zs:List ag)(a:Ans)(l:List Bs):(eG zs a l).length<=l.length:=List.length_filterMap_le _ _
theorem DP{zs:List ag}(hg:eP zs){a:Ans}{l:List Bs}(hl:∀n∈l,aj n=true):∀b∈eG zs a l,aj b=true:=fun b hb=>by
 unfold eG at hb;obtain⟨n,hn,hx⟩:=List.mem_filterMap.1 hb;split at hx
 . cases hx
 . exact nI hg (BV (hl n hn) hx)
structure JG(a:Ans):Prop where
 sets:a.sets.length<=1000
 data:∀s∈a.sets,s.set.data.length<=100
theorem Kv{z:aQ}(hf:eI z=true)(q:bg):JG (bG z q).1:=⟨Ek hf q,fun s hs=>by have:=((dH hf).2 s (Mt hf q s hs)).1;omega⟩
theorem xg{zs:List ag}(hg:eP zs){a:Bs}(ha:aj a=true){p:Bs×Ans}(h:cK zs a=some p):JG p.2:=by
 obtain⟨_,_,_,_,x,_,_,_,h2,u,_⟩:=Bz hg ha h;rw[h2];exact Kv u.few _
end NP
namespace Go.Proofs.YtjapjahfllomkaaGreatDoor
open NQ Go NP Go.RowKit
set_option maxHeartbeats 1000000 in
theorem BW(a:Ans)(hF:JG a):NQ.Fn cx 137 [.agg (dw a)] (.tuple [.d (.slice 1 ((cE a).map aA)), .d (.kmap ((iE a.sets).map iB))]) []:=by
 refine aO bf mixed Tryz.func137 (by kernel_rfl) rfl (ah rfl) ?_;conv=>whnf
 have hlen:∀k,(gj a.cut (a.sets.take k)).length<=100000:=fun k=>by
  have:=xq a.cut (a.sets.take k) fun s hs=>hF.data s (List.mem_of_mem_take hs)
  have h1:=List.length_take_le' k a.sets;have h2:=hF.sets;omega
 refine ⟨Nat, fun k => ⟨[(1, .ptr 1 0), (4, .own 4), (5, .omap 10), (12, .d (.slice 5 (a.sets.map aw))), (13, .d (.int .i64 ((a.sets.map aw).length : Int))), (14, .d (.int .i64 k))],
     [(1, .box ((dw a).map .d)),(4, .row 9 1 ((gj a.cut (a.sets.take k)).map aA)),(10, .smap (iE (a.sets.take k)))]⟩,fun k=>k<=a.sets.length,fun k=>a.sets.length-k,
  ⟨0,Nat.zero_le _,(an.lM 4 4 1 9 1 rfl rfl (by decide)).trans (an.keep ⟨⟨rfl,rfl⟩,⟨rfl,rfl⟩,⟨rfl,rfl⟩,⟨rfl,rfl⟩,⟨rfl,rfl⟩,⟨rfl,rfl⟩,trivial⟩ ⟨⟨rfl,rfl⟩,⟨rfl,rfl⟩,⟨rfl,rfl⟩,trivial⟩)⟩,fun k hk=>?_⟩
 dsimp only at hk ⊢
 conv=>whnf
 refine ae (fun h1=>?_) (fun h1=>?_) <;> (rw[h1];conv=>whnf)
 case refine_2 =>
  obtain rfl:k=a.sets.length:=by simp at h1;omega
  rw[List.take_length];exact af rfl rfl
 have hlt:k<a.sets.length:=by simpa using h1
 obtain⟨s,hs⟩:∃s,a.sets[k]? =some s:=⟨_,ai hlt⟩
 have hsd:=hF.data s (aq hs);have hsl:=hF.sets;have g1:(s.set.type==1)=true->iE (a.sets.take (k+1))=cH s.set.name (.bool true) (iE (a.sets.take k)):=fun h=>by rw[bt hs,xn,if_pos h]
 have g0:(s.set.type==1)=false->iE (a.sets.take (k+1))=iE (a.sets.take k):=fun h=>by rw[bt hs,xn,if_neg (by rw[h];simp)]
 have n1:jt a.cut s=true->gj a.cut (a.sets.take (k+1))=gj a.cut (a.sets.take k)++s.set.data.map (·.text):=fun h=>by rw[bt hs,vg,if_pos h]
 have n0:jt a.cut s=false->gj a.cut (a.sets.take (k+1))=gj a.cut (a.sets.take k):=fun h=>by rw[bt hs,vg,if_neg (by rw[h];simp),List.append_nil]
 refine⟨aH k,aw s,aU hs,?_⟩
 conv=>whnf
 refine ae (fun h2=>?_) (fun h2=>?_) <;> (rw[h2];conv=>whnf)
 . have hn:jt a.cut s=false:=by
    have e:s.set.type=1:=by simpa using h2
    unfold jt;rw[e];rfl
   refine ae (fun h3=>?_) (fun h3=>?_) <;> (rw[h3];conv=>whnf)
   . exfalso
     have e1:s.set.type=1:=by simpa using h2
     have e2:s.set.type=2:=by simpa using h3
     omega
   . refine⟨k+1,hlt,by(show a.sets.length-(k+1)<a.sets.length-k;omega),an.keep ⟨⟨rfl,rfl⟩,⟨rfl,rfl⟩,⟨rfl,rfl⟩,⟨rfl,rfl⟩,⟨rfl,rfl⟩,⟨au (by omega),rfl⟩,trivial⟩ ⟨⟨rfl,rfl⟩,⟨?_,rfl⟩,⟨?_,rfl⟩,trivial⟩⟩
     . rw[n0 hn];rfl
     . rw[g1 h2];rfl
 . refine ae (fun h3=>?_) (fun h3=>?_) <;> (rw[h3];conv=>whnf)
   case refine_2 =>
    refine⟨k+1,hlt,by(show a.sets.length-(k+1)<a.sets.length-k;omega),an.keep ⟨⟨rfl,rfl⟩,⟨rfl,rfl⟩,⟨rfl,rfl⟩,⟨rfl,rfl⟩,⟨rfl,rfl⟩,⟨au (by omega),rfl⟩,trivial⟩ ⟨⟨rfl,rfl⟩,⟨?_,rfl⟩,⟨?_,rfl⟩,trivial⟩⟩
    . rw[n0 (by unfold jt;rw[show(s.set.type==2)=false from h3];rfl)];rfl
    . rw[g0 h2];rfl
   refine ae (fun h4=>?_) (fun h4=>?_) <;> (rw[h4];conv=>whnf)
   case refine_2 =>
    refine⟨k+1,hlt,by(show a.sets.length-(k+1)<a.sets.length-k;omega),an.keep ⟨⟨rfl,rfl⟩,⟨rfl,rfl⟩,⟨rfl,rfl⟩,⟨rfl,rfl⟩,⟨rfl,rfl⟩,⟨au (by omega),rfl⟩,trivial⟩ ⟨⟨rfl,rfl⟩,⟨?_,rfl⟩,⟨?_,rfl⟩,trivial⟩⟩
    . rw[n0 (by unfold jt;rw[show(s.set.name==a.cut)=false from h4];exact aB _)];rfl
    . rw[g0 h2];rfl
   have hsv:jt a.cut s=true:=by unfold jt;rw[show(s.set.type==2)=true from h3,show(s.set.name==a.cut)=true from h4];rfl
   refine ⟨Nat, fun j => ⟨[(1, .ptr 1 0), (4, .own 4), (5, .omap 10), (12, .d (.slice 5 (a.sets.map aw))), (13, .d (.int .i64 ((a.sets.map aw).length : Int))), (14, .d (.int .i64 k)), (40, .d (.slice 3 (s.set.data.map cz))), (41, .d (.int .i64 ((s.set.data.map cz).length : Int))), (42, .d (.int .i64 j))],
       [(1, .box ((dw a).map .d)),(4, .row 9 1 ((gj a.cut (a.sets.take k)++(s.set.data.take j).map (·.text)).map aA)),(10, .smap (iE (a.sets.take k)))]⟩,fun j=>j<=s.set.data.length,fun j=>s.set.data.length-j,
    ⟨0,Nat.zero_le _,an.keep ⟨⟨rfl,rfl⟩,⟨rfl,rfl⟩,⟨rfl,rfl⟩,⟨rfl,rfl⟩,⟨rfl,rfl⟩,⟨rfl,rfl⟩,⟨rfl,rfl⟩,⟨rfl,rfl⟩,⟨rfl,rfl⟩,trivial⟩ ⟨⟨rfl,rfl⟩,⟨?_,rfl⟩,⟨rfl,rfl⟩,trivial⟩⟩,fun j hj=>?_⟩
   . show _=some (Blk.row _ _ ((gj a.cut (a.sets.take k)++[]).map aA) _)
     rw[List.append_nil];rfl
   dsimp only at hj ⊢
   conv=>whnf
   refine ae (fun h5=>?_) (fun h5=>?_) <;> (rw[h5];conv=>whnf)
   . have hjl:j<s.set.data.length:=by simpa using h5
     obtain⟨d,hd⟩:∃d,s.set.data[j]? =some d:=⟨_,ai hjl⟩
     have:=hlen k;refine⟨aH j,cz d,aU hd,?_⟩
     conv=>whnf
     refine⟨by(show((gj a.cut (a.sets.take k)++(s.set.data.take j).map (·.text)).map aA).length+1<=_);simp;omega,by(show(((gj a.cut (a.sets.take k)++(s.set.data.take j).map (·.text)).map aA).length+1)*16<=_);simp;omega,?_⟩
     conv=>whnf
     refine⟨j+1,hjl,by(show s.set.data.length-(j+1)<s.set.data.length-j;omega),an.keep ⟨⟨rfl,rfl⟩,⟨rfl,rfl⟩,⟨rfl,rfl⟩,⟨rfl,rfl⟩,⟨rfl,rfl⟩,⟨rfl,rfl⟩,⟨rfl,rfl⟩,⟨rfl,rfl⟩,⟨au (by omega),rfl⟩,trivial⟩ ⟨⟨rfl,rfl⟩,⟨?_,rfl⟩,⟨rfl,rfl⟩,trivial⟩⟩;rw[bt hd];simp only[List.map_append,List.append_assoc];rfl
   . obtain rfl:j=s.set.data.length:=by simp at h5;omega
     refine⟨k+1,hlt,by(show a.sets.length-(k+1)<a.sets.length-k;omega),an.keep ⟨⟨rfl,rfl⟩,⟨rfl,rfl⟩,⟨rfl,rfl⟩,⟨rfl,rfl⟩,⟨rfl,rfl⟩,⟨au (by omega),rfl⟩,trivial⟩ ⟨⟨rfl,rfl⟩,⟨?_,rfl⟩,⟨?_,rfl⟩,trivial⟩⟩
     . rw[n1 hsv,List.take_length];rfl
     . rw[g0 h2];rfl
noncomputable def cxL:Cx:={cx with chg:=fun g=>match Nat.beq g 169 with | true=>2 | false=>(match Nat.beq g 170 with | true=>1 | false=>cx.chg g)}
theorem tyL:bA cxL:=bf
theorem NY:cxL.P.follows .mixedOrders=true:=mixed
set_option maxHeartbeats 1000000 in
theorem Cg(zs:List ag)(a:Bs)(hg:eP zs)(ha:aj a=true):NQ.Fn cx 92 [.agg (de zs), .str a] (.d (.slice 1 ((bq zs a).map aA))) []:=by
 show NQ.Fn cxL _ _ _ _
 refine cR (fun _=>[]) tyL NY Tryz.func92 (by kernel_rfl) rfl (ah rfl) ?_
 conv=>whnf
 (refine⟨_,_,zg zs a hg ha,?_⟩;conv=>whnf)
 cases hd:cK zs a with
 | none =>
  have e:bq zs a=[]:=by unfold bq;rw[hd]
  rw[e]
  conv=>whnf
  exact af rfl rfl
 | some p =>
  have e:bq zs a=Lib.compact (iw (eG zs p.2 (cE p.2))):=by unfold bq;rw[hd]
  obtain⟨_,_,_,_,hv,hl⟩:=oW hg ha hd;rw[e]
  conv=>whnf
  (refine⟨_,_,BW p.2 (xg hg ha hd),?_⟩;conv=>whnf)
  generalize cE p.2=hs at hv hl ⊢
  refine ⟨Nat, fun k => ⟨[(2, .ptr 2 0), (9, .d (.kmap ((iE p.2.sets).map iB))), (10, .own 10), (29, .d (.slice 1 (hs.map aA))), (30, .d (.int .i64 ((hs.map aA).length : Int))), (31, .d (.int .i64 k))],
      [(2, .box ((de zs).map .d)),(10, .row 9 1 ((eG zs p.2 (hs.take k)).map aA))]⟩,fun k=>k<=hs.length,fun k=>hs.length-k,
   ⟨0,Nat.zero_le _,(an.lM 10 10 1 9 1 rfl rfl (by decide)).trans (an.keep ⟨⟨rfl,rfl⟩,⟨rfl,rfl⟩,⟨rfl,rfl⟩,⟨rfl,rfl⟩,⟨rfl,rfl⟩,⟨rfl,rfl⟩,trivial⟩ ⟨⟨rfl,rfl⟩,⟨rfl,rfl⟩,trivial⟩)⟩,fun k hk=>?_⟩
  dsimp only at hk ⊢
  conv=>whnf
  refine ae (fun h1=>?_) (fun h1=>?_) <;> (rw[h1];conv=>whnf)
  . have hlt:k<hs.length:=by simpa using h1
    obtain⟨n,hn⟩:∃n,hs[k]? =some n:=⟨_,ai hlt⟩
    have hnl:(eG zs p.2 (hs.take k)).length<=20:=by
     have:=zC zs p.2 (hs.take k);have:=List.length_take_le' k hs;omega
    refine⟨aH k,aA n,aU hn,?_⟩
    conv=>whnf
    (refine⟨_,_,BE zs n (hv n (aq hn)),?_⟩;conv=>whnf)
    have hnext:=Gb zs p.2 (hs.take k) n;rw[<- bt hn]at hnext;cases hh:ff zs n with
    | none =>
     conv=>whnf
     refine⟨k+1,hlt,by(show hs.length-(k+1)<hs.length-k;omega),an.keep ⟨⟨rfl,rfl⟩,⟨rfl,rfl⟩,⟨rfl,rfl⟩,⟨rfl,rfl⟩,⟨rfl,rfl⟩,⟨au (by omega),rfl⟩,trivial⟩ ⟨⟨rfl,rfl⟩,⟨?_,rfl⟩,trivial⟩⟩;rw[hnext,hh];have:(if eo p.2 n=true then none else(none:Option Bs))=none:=by split <;> rfl
     rw[this,List.append_nil];rfl
    | some b =>
     conv=>whnf
     refine⟨_,BR p.2 n,?_⟩;cases hgl:eo p.2 n with
     | true =>
      conv=>whnf
      refine⟨k+1,hlt,by(show hs.length-(k+1)<hs.length-k;omega),an.keep ⟨⟨rfl,rfl⟩,⟨rfl,rfl⟩,⟨rfl,rfl⟩,⟨rfl,rfl⟩,⟨rfl,rfl⟩,⟨au (by omega),rfl⟩,trivial⟩ ⟨⟨rfl,rfl⟩,⟨?_,rfl⟩,trivial⟩⟩;rw[hnext,hgl,if_pos rfl,List.append_nil];rfl
     | false =>
      conv=>whnf
      refine⟨by(show((eG zs p.2 (hs.take k)).map aA).length+1<=_);simp;omega,by(show(((eG zs p.2 (hs.take k)).map aA).length+1)*16<=_);simp;omega,?_⟩
      conv=>whnf
      refine⟨k+1,hlt,by(show hs.length-(k+1)<hs.length-k;omega),an.keep ⟨⟨rfl,rfl⟩,⟨rfl,rfl⟩,⟨rfl,rfl⟩,⟨rfl,rfl⟩,⟨rfl,rfl⟩,⟨au (by omega),rfl⟩,trivial⟩ ⟨⟨rfl,rfl⟩,⟨?_,rfl⟩,trivial⟩⟩;rw[hnext,hgl,if_neg (by simp),hh,List.map_append];rfl
  . obtain rfl:k=hs.length:=by simp at h1;omega
    rw[List.take_length];have hnl:(eG zs p.2 hs).length<=20:=Nat.le_trans (zC zs p.2 hs) hl;have hnv:=DP hg (a:=p.2) hv;have hsl:(iw (eG zs p.2 hs)).length<=100000:=by rw[(ix _).length_eq];omega
    refine⟨_,vJ _ hnv (by omega) _,?_⟩;generalize iw (eG zs p.2 hs)=l at hsl ⊢
    conv=>whnf
    refine⟨_,Dr l hsl _,?_⟩
    conv=>whnf
    exact af rfl rfl
end Go.Proofs.YtjapjahfllomkaaGreatDoor
namespace NP
open NQ Go
theorem yP(zs:List ag)(a:Ans)(l:List Bs)(n:Bs):gA zs a (l++[n])=gA zs a l++(match (if eo a n=true then none else match ff zs n with | none=>none | some h=>if oZ zs h n=true then some h else none)with | some h=>[h] | none=>[]):=by
 unfold gA;rw[List.filterMap_append]
 congr 1
 cases hg:eo a n with
 | true=>simp[List.filterMap_cons,hg]
 | false =>
  cases hh:ff zs n with
  | none=>simp[List.filterMap_cons,hg,hh]
  | some b=>cases hk:oZ zs b n <;> simp[List.filterMap_cons,hg,hh,hk]
theorem so(zs:List ag)(a:Ans)(l:List Bs):(gA zs a l).length<=l.length:=List.length_filterMap_le _ _
end NP
namespace Go.Proofs.YtjapjahfllomkaaGreatDoor
open NQ Go NP Go.RowKit
set_option maxHeartbeats 2000000 in
theorem Ns(zs:List ag)(a:Bs)(hg:eP zs)(ha:aj a=true):NQ.Fn cx 73 [.agg (de zs), .str a] (.agg ((uL (jd zs a)).map .d)) []:=by
 refine aO bf mixed Tryz.func73 (by kernel_rfl) rfl (ah rfl) ?_;conv=>whnf
 (refine⟨_,_,zg zs a hg ha,?_⟩;conv=>whnf)
 cases hd:cK zs a with
 | none =>
  have e:jd zs a=Mm:=by unfold jd;rw[hd]
  rw[e]
  conv=>whnf
  exact af rfl rfl
 | some p =>
  have e:jd zs a=⟨true,(cE p.2).any (eo p.2),p.1,gA zs p.2 (cE p.2)⟩:=by unfold jd;rw[hd]
  obtain⟨_,_,_,_,hv,hl⟩:=oW hg ha hd;rw[e]
  conv=>whnf
  (refine⟨_,_,BW p.2 (xg hg ha hd),?_⟩;conv=>whnf)
  generalize cE p.2=hs at hv hl ⊢
  refine ⟨Nat, fun k => ⟨[(2, .ptr 2 0), (4, .ptr 4 0), (8, .ptr 8 0), (10, .d (.kmap ((iE p.2.sets).map iB))), (34, .d (.slice 1 (hs.map aA))), (35, .d (.int .i64 ((hs.map aA).length : Int))), (36, .d (.int .i64 k))],
      [(2, .box ((de zs).map .d)),(4, .box [.d (.bool false), .d (.bool false), .d (.str []), .nil 1]),(8, .box [.d (.bool true), .d (.bool ((hs.take k).any (eo p.2))), .d (.str p.1), .own 200]),(200, .row 9 1 ((gA zs p.2 (hs.take k)).map aA))]⟩,fun k=>k<=hs.length,fun k=>hs.length-k,
   ⟨0,Nat.zero_le _,(an.rP 8 3 200 1 [.d (.bool true), .d (.bool false), .d (.str p.1), .nil 1] 9 1 (by kernel_rfl) rfl (by kernel_rfl) (by decide)).trans (an.keep ⟨⟨rfl,rfl⟩,⟨rfl,rfl⟩,⟨rfl,rfl⟩,⟨rfl,rfl⟩,⟨rfl,rfl⟩,⟨rfl,rfl⟩,⟨rfl,rfl⟩,trivial⟩ ⟨⟨rfl,rfl⟩,⟨rfl,rfl⟩,⟨rfl,rfl⟩,⟨rfl,rfl⟩,trivial⟩)⟩,fun k hk=>?_⟩
  dsimp only at hk ⊢
  conv=>whnf
  refine ae (fun h1=>?_) (fun h1=>?_) <;> (rw[h1];conv=>whnf)
  case refine_2 =>
   obtain rfl:k=hs.length:=by simp at h1;omega
   rw[List.take_length];exact af rfl rfl
  have hlt:k<hs.length:=by simpa using h1
  obtain⟨n,hn⟩:∃n,hs[k]? =some n:=⟨_,ai hlt⟩
  have hvn:=hv n (aq hn);have hnl:(gA zs p.2 (hs.take k)).length<=20:=by
   have:=so zs p.2 (hs.take k);have:=List.length_take_le' k hs;omega
  have hnext:=yP zs p.2 (hs.take k) n;rw[<- bt hn]at hnext;have hany:(hs.take (k+1)).any (eo p.2)=((hs.take k).any (eo p.2)||eo p.2 n):=by rw[bt hn,List.any_append];simp
  refine⟨aH k,aA n,aU hn,?_⟩
  conv=>whnf
  refine⟨_,BR p.2 n,?_⟩;cases hgl:eo p.2 n with
  | true =>
   conv=>whnf
   refine⟨k+1,hlt,by(show hs.length-(k+1)<hs.length-k;omega),an.keep ⟨⟨rfl,rfl⟩,⟨rfl,rfl⟩,⟨rfl,rfl⟩,⟨rfl,rfl⟩,⟨rfl,rfl⟩,⟨rfl,rfl⟩,⟨au (by omega),rfl⟩,trivial⟩ ⟨⟨rfl,rfl⟩,⟨rfl,rfl⟩,⟨?_,rfl⟩,⟨?_,rfl⟩,trivial⟩⟩
   . rw[hany,hgl,aL];rfl
   . rw[hnext,hgl,if_pos rfl,List.append_nil];rfl
  | false =>
   have hany:(hs.take (k+1)).any (eo p.2)=(hs.take k).any (eo p.2):=by rw[hany,hgl,aC]
   rw[hgl,if_neg (by simp)]at hnext
   conv=>whnf
   (refine⟨_,_,BE zs n hvn,?_⟩;conv=>whnf)
   cases hh:ff zs n with
   | none =>
    rw[hh]at hnext
    conv=>whnf
    refine⟨k+1,hlt,by(show hs.length-(k+1)<hs.length-k;omega),an.keep ⟨⟨rfl,rfl⟩,⟨rfl,rfl⟩,⟨rfl,rfl⟩,⟨rfl,rfl⟩,⟨rfl,rfl⟩,⟨rfl,rfl⟩,⟨au (by omega),rfl⟩,trivial⟩ ⟨⟨rfl,rfl⟩,⟨rfl,rfl⟩,⟨?_,rfl⟩,⟨?_,rfl⟩,trivial⟩⟩
    . rw[hany];rfl
    . rw[hnext,List.append_nil];rfl
   | some b =>
    rw[hh]at hnext;have hsp:=rA zs hvn;rw[hh]at hsp;obtain⟨x,hx⟩:=Option.isSome_iff_exists.1 hsp.1;have hkn:oZ zs b n=((bG x.2.zone ⟨n,1⟩).1.kind==1):=by unfold oZ;rw[hx]
    have hzk:=nW zs b;rw[hx]at hzk
    conv=>whnf
    refine⟨_,hzk,?_⟩
    conv=>whnf
    (refine⟨_,_,wV x.2.zone ⟨n,1⟩ (by have:=(dH (hg _ (ky hx).1).1).1;omega),?_⟩;conv=>whnf)
    refine ae (fun h2=>?_) (fun h2=>?_) <;> (rw[h2];conv=>whnf)
    . have h2' :oZ zs b n=true:=hkn.trans h2;refine⟨by(show((gA zs p.2 (hs.take k)).map aA).length+1<=_);simp;omega,by(show(((gA zs p.2 (hs.take k)).map aA).length+1)*16<=_);simp;omega,?_⟩
      conv=>whnf
      refine⟨k+1,hlt,by(show hs.length-(k+1)<hs.length-k;omega),an.keep ⟨⟨rfl,rfl⟩,⟨rfl,rfl⟩,⟨rfl,rfl⟩,⟨rfl,rfl⟩,⟨rfl,rfl⟩,⟨rfl,rfl⟩,⟨au (by omega),rfl⟩,trivial⟩ ⟨⟨rfl,rfl⟩,⟨rfl,rfl⟩,⟨?_,rfl⟩,⟨?_,rfl⟩,trivial⟩⟩
      . rw[hany];rfl
      . rw[hnext];dsimp only;rw[if_pos h2',List.map_append];rfl
    . have h2' :oZ zs b n=false:=hkn.trans h2;refine⟨k+1,hlt,by(show hs.length-(k+1)<hs.length-k;omega),an.keep ⟨⟨rfl,rfl⟩,⟨rfl,rfl⟩,⟨rfl,rfl⟩,⟨rfl,rfl⟩,⟨rfl,rfl⟩,⟨rfl,rfl⟩,⟨au (by omega),rfl⟩,trivial⟩ ⟨⟨rfl,rfl⟩,⟨rfl,rfl⟩,⟨?_,rfl⟩,⟨?_,rfl⟩,trivial⟩⟩
      . rw[hany];rfl
      . rw[hnext];dsimp only;rw[if_neg (by rw[h2'];simp),List.append_nil];rfl
end Go.Proofs.YtjapjahfllomkaaGreatDoor
namespace NP
open NQ Go
def ml(zs:List ag)(l:List Bs):List (Bs×D):=l.map fun a=>(a, .agg (uL (jd zs a)))
theorem vB(zs:List ag)(a:Bs):∀l:List Bs,cG a (ml zs l)=if l.contains a=true then some (.agg (uL (jd zs a)))else none
 | []=>rfl
 | b::t=>by
  show(if a=b then _ else cG a (ml zs t))=_
  rw[vB zs a t,List.contains_cons];by_cases h:a=b
  . subst h;simp
  . rw[if_neg h,show(a==b)=false by simpa using h,az]
theorem xR(zs:List ag){a:Bs}:∀{r:List Bs},r.contains a=false->cH a (.agg (uL (jd zs a))) (ml zs r)=ml zs (r++[a])
 | [],_=>rfl
 | b::t,h=>by
  rw[List.contains_cons,Bool.or_eq_false_iff]at h;have hne:¬a=b:=by simpa using h.1
  show(if a=b then _ else(b,_)::cH a _ (ml zs t))=_
  rw[if_neg hne,xR zs h.2];rfl
def tj(l:List Bs)(p:Bs->Bool):Int:=if l.any p=true then(l.findIdx p:Int)else -1
theorem KO{l:List Bs}{p:Bs->Bool}{k:Nat}{x:Bs}(hno:(l.take k).any p=false)(hx:l[k]? =some x)(hp:p x=true):tj l p=k:=by
 obtain⟨hlt,e⟩:=ar.1 hx;unfold tj;rw[if_pos (List.any_eq_true.2 ⟨x,aq hx,hp⟩)]
 congr 1
 rw[List.findIdx_eq hlt];refine⟨by rw[e];exact hp,fun j hj=>?_⟩;have h1:l[j]∈l.take k:=by
  rw[List.mem_take_iff_getElem];exact⟨j,by omega,rfl⟩
 have:=List.any_eq_false.1 hno _ h1;simpa using this
theorem Ir{l:List Bs}{p:Bs->Bool}(h:l.any p=false):tj l p= -1:=by unfold tj;rw[if_neg (by rw[h];simp)]
theorem KP(l:List Bs)(p:Bs->Bool):decide (tj l p>=0)=l.any p:=by
 unfold tj;cases h:l.any p with
 | true=>rw[if_pos rfl];exact decide_eq_true (aH _)
 | false=>rw[if_neg (by simp)];rfl
theorem I2(zs:List ag){a:Bs}(h:a∈aV zs):iv (.str a) ((ml zs (aV zs)).map iB)=some (some (.agg (uL (jd zs a)))):=by
 rw[yT,vB,if_pos (c8.2 h)]
end NP
namespace Go.Proofs.YtjapjahfllomkaaGreatDoor
open NQ Go NP Go.RowKit
noncomputable def cxZ:Cx:={cx with chg:=fun g=>match Nat.beq g 74 with | true=>6 | false=>(match Nat.beq g 75 with | true=>6 | false=>(match Nat.beq g 140 with | true=>6 | false=>  (match Nat.beq g 209 with | true=>6 | false=>(match Nat.beq g 76 with | true=>6 | false=>cx.chg g))))}
theorem tyZ:bA cxZ:=bf
theorem qI:cxZ.P.follows .mixedOrders=true:=mixed
def isR:AV:= .fn 74 [] [.ptr 100008 0]
def hZ(r:List Bs):List (Nat×Blk):=[(100008, .box [.omap 33]),(100009, .box [isR]),(33, .smap (eZ r))]
def hG(zs:List ag)(r:List Bs):List (Nat×Blk):=[(100004, .box ((de zs).map .d)),(100005, .box [.d (.kmap ((ml zs (aV zs)).map iB))]),(100008, .box [.omap 33]),(100009, .box [isR]),(33, .smap (eZ r))]
theorem sj(r:List Bs)(a:Bs):FnH cxZ 74 [.d (.str a), .ptr 100008 0] (hZ r) (.d (.bool (r.contains a))) (hZ r):=by
 refine l6 (fun _=>[]) tyZ qI Tryz.func74 (by kernel_rfl) rfl (ah rfl) (ah rfl) ?_
 conv=>whnf
 rw[mq];cases h:r.contains a with
 | true =>
  conv=>whnf
  exact⟨[(3, .d (.bool true))],an.keep ⟨⟨(by kernel_rfl),(by kernel_rfl)⟩,trivial⟩ ⟨⟨(by kernel_rfl),(by kernel_rfl)⟩,⟨(by kernel_rfl),(by kernel_rfl)⟩,⟨(by kernel_rfl),(by kernel_rfl)⟩,trivial⟩,rfl⟩
 | false =>
  conv=>whnf
  exact⟨[(3, .d (.bool false))],an.keep ⟨⟨(by kernel_rfl),(by kernel_rfl)⟩,trivial⟩ ⟨⟨(by kernel_rfl),(by kernel_rfl)⟩,⟨(by kernel_rfl),(by kernel_rfl)⟩,⟨(by kernel_rfl),(by kernel_rfl)⟩,trivial⟩,rfl⟩
theorem FY(l r:List Bs)(hl:l.length<=100000):FnH cxZ 209 [.d (.slice 1 (l.map aA)),isR] (hZ r) (.d (.int .i64 (tj l r.contains))) (hZ r):=by
 refine l6 (fun | 4=>[88888] | _=>[]) tyZ qI Tryz.func209 (by kernel_rfl) rfl (ah rfl) (ah rfl) ?_
 conv=>whnf
 refine⟨Nat,fun k=>⟨[(0, .d (.slice 1 (l.map aA))),(1,isR),(7, .d (.int .i64 ((l.map aA).length:Int))),(8, .d (.int .i64 k))],hZ r⟩,fun k=>k<=l.length/\(l.take k).any r.contains=false,fun k=>l.length-k,
  ⟨0,⟨Nat.zero_le _,rfl⟩,an.keep ⟨⟨rfl,rfl⟩,⟨rfl,rfl⟩,⟨rfl,rfl⟩,⟨rfl,rfl⟩,trivial⟩ ⟨⟨rfl,rfl⟩,⟨rfl,rfl⟩,⟨rfl,rfl⟩,trivial⟩⟩,fun k ⟨hk,hno⟩=>?_⟩
 dsimp only at hk hno ⊢
 conv=>whnf
 refine ae (fun h1=>?_) (fun h1=>?_) <;> (rw[h1];conv=>whnf)
 . have hlt:k<l.length:=by simpa using h1
   obtain⟨x,hx⟩:∃x,l[k]? =some x:=⟨_,ai hlt⟩
   refine⟨aH k,aA x,aU hx,?_⟩
   conv=>whnf
   refine⟨[],_,_,sj r x,⟨⟨by kernel_rfl,by kernel_rfl⟩,by kernel_rfl,by kernel_rfl,by kernel_rfl⟩,?_⟩
   conv=>whnf
   cases hr:r.contains x with
   | true =>
    conv=>whnf
    rw[KO hno hx hr];exact⟨[(4, .d (.int .i64 k))],an.keep ⟨⟨rfl,rfl⟩,trivial⟩ ⟨⟨rfl,rfl⟩,⟨rfl,rfl⟩,⟨rfl,rfl⟩,trivial⟩,rfl⟩
   | false =>
    conv=>whnf
    refine⟨k+1,⟨hlt,?_⟩,by(show l.length-(k+1)<l.length-k;omega),an.keep ⟨⟨rfl,rfl⟩,⟨rfl,rfl⟩,⟨rfl,rfl⟩,⟨au (by omega),rfl⟩,trivial⟩ ⟨⟨rfl,rfl⟩,⟨rfl,rfl⟩,⟨rfl,rfl⟩,trivial⟩⟩;rw[bt hx,List.any_append,hno];simp only[List.any_cons,List.any_nil,hr];rfl
 . obtain rfl:k=l.length:=by simp at h1;omega
   rw[List.take_length]at hno;rw[Ir hno];exact⟨[(4, .d (.int .i64 (-1)))],an.keep ⟨⟨rfl,rfl⟩,trivial⟩ ⟨⟨rfl,rfl⟩,⟨rfl,rfl⟩,⟨rfl,rfl⟩,trivial⟩,rfl⟩
theorem Al(l r:List Bs)(hl:l.length<=100000):FnH cxZ 140 [.d (.slice 1 (l.map aA)),isR] (hZ r) (.d (.bool (l.any r.contains))) (hZ r):=by
 refine l6 (fun | 1=>[88888] | _=>[]) tyZ qI Tryz.func140 (by kernel_rfl) rfl (ah rfl) (ah rfl) ?_
 conv=>whnf
 refine⟨[],_,_,FY l r hl,⟨⟨by kernel_rfl,by kernel_rfl⟩,by kernel_rfl,by kernel_rfl,by kernel_rfl⟩,?_⟩
 conv=>whnf
 rw[<- KP l r.contains];exact⟨[(4, .d (.bool (decide (tj l r.contains>=0))))],an.keep ⟨⟨rfl,rfl⟩,trivial⟩ ⟨⟨rfl,rfl⟩,⟨rfl,rfl⟩,⟨rfl,rfl⟩,trivial⟩,rfl⟩
theorem K9(rd:um)(r:List Bs)(hl:rd.homes.length<=100000):FnH cxZ 76 [.agg ((uL rd).map .d),isR] (hZ r) (.d (.bool (ou rd r.contains))) (hZ r):=by
 obtain⟨th,gl,ab,hm⟩:=rd;refine l6 (fun | 1=>[88888] | _=>[]) tyZ qI Tryz.func76 (by kernel_rfl) rfl (ah rfl) (ah rfl) ?_
 conv=>whnf
 cases th with
 | false =>
  conv=>whnf
  exact⟨[(4, .d (.bool false))],an.keep ⟨⟨rfl,rfl⟩,trivial⟩ ⟨⟨rfl,rfl⟩,⟨rfl,rfl⟩,⟨rfl,rfl⟩,trivial⟩,rfl⟩
 | true =>
  conv=>whnf
  refine⟨[2],_,_,sj r ab,⟨⟨by kernel_rfl,by kernel_rfl⟩,by kernel_rfl,by kernel_rfl,by kernel_rfl⟩,?_⟩
  conv=>whnf
  have e:ou ⟨true,gl,ab,hm⟩ r.contains=(r.contains ab&&(gl||hm.any r.contains)):=by unfold ou;rw[aE]
  rw[e];cases ha:r.contains ab with
  | false =>
   conv=>whnf
   exact⟨[(4, .d (.bool false))],an.keep ⟨⟨rfl,rfl⟩,trivial⟩ ⟨⟨rfl,rfl⟩,⟨rfl,rfl⟩,⟨rfl,rfl⟩,trivial⟩,rfl⟩
  | true =>
   conv=>whnf
   cases gl with
   | true =>
    conv=>whnf
    exact⟨[(4, .d (.bool true))],an.keep ⟨⟨rfl,rfl⟩,trivial⟩ ⟨⟨rfl,rfl⟩,⟨rfl,rfl⟩,⟨rfl,rfl⟩,trivial⟩,rfl⟩
   | false =>
    conv=>whnf
    refine⟨[2],_,_,Al hm r hl,⟨⟨by kernel_rfl,by kernel_rfl⟩,by kernel_rfl,by kernel_rfl,by kernel_rfl⟩,?_⟩
    conv=>whnf
    exact⟨[(4, .d (.bool (hm.any r.contains)))],an.keep ⟨⟨rfl,rfl⟩,trivial⟩ ⟨⟨rfl,rfl⟩,⟨rfl,rfl⟩,⟨rfl,rfl⟩,trivial⟩,rfl⟩
set_option maxHeartbeats 1000000 in
theorem KL(zs:List ag)(r:List Bs)(hg:eP zs)(hz:zs.length<=1000):FnH cxZ 75 [.ptr 100004 0, .ptr 100008 0, .ptr 100005 0, .ptr 100009 0] (hG zs r) (.d (.bool (decide (r.length<(iF zs r).length)))) (hG zs (iF zs r)):=by
 have hal:=lg zs;refine l6 (fun | 5=>[88888] | _=>[]) tyZ qI Tryz.func75 (by kernel_rfl) rfl (ah rfl) (ah rfl) ?_
 conv=>whnf
 refine⟨Nat×List Bs,fun x=>⟨[(0, .ptr 100004 0),(1, .ptr 100008 0),(2, .ptr 100005 0),(3, .ptr 100009 0),(5, .d (.bool (decide (r.length<x.2.length)))),(9, .d (.slice 1 ((aV zs).map aA))),(10, .d (.int .i64 (((aV zs).map aA).length:Int))),(11, .d (.int .i64 x.1))],hG zs x.2⟩,
  fun x=>x.1<=(aV zs).length/\ng zs x.2 ((aV zs).drop x.1)=iF zs r/\r.length<=x.2.length,fun x=>(aV zs).length-x.1,
  ⟨(0,r),⟨Nat.zero_le _,rfl,Nat.le_refl _⟩,an.keep ⟨⟨rfl,rfl⟩,⟨rfl,rfl⟩,⟨rfl,rfl⟩,⟨rfl,rfl⟩,⟨by(show AV.d (D.bool false)=AV.d (D.bool (decide (r.length<r.length))));rw[decide_eq_false (Nat.lt_irrefl _)],rfl⟩,⟨rfl,rfl⟩,⟨rfl,rfl⟩,⟨rfl,rfl⟩,trivial⟩ ⟨⟨rfl,rfl⟩,⟨rfl,rfl⟩,⟨rfl,rfl⟩,⟨rfl,rfl⟩,⟨rfl,rfl⟩,trivial⟩⟩,fun⟨k,r'⟩ ⟨hk,hinv,hle⟩=>?_⟩
 dsimp only at hk hinv hle ⊢
 conv=>whnf
 refine ae (fun h1=>?_) (fun h1=>?_) <;> (rw[h1];conv=>whnf)
 case refine_2 =>
  obtain rfl:k=(aV zs).length:=by simp at h1;omega
  rw[List.drop_length]at hinv;have hinv:r' =iF zs r:=hinv;subst hinv;exact⟨[(4, .d (.bool (decide (r.length<(iF zs r).length))))],an.keep ⟨⟨rfl,rfl⟩,trivial⟩ ⟨⟨rfl,rfl⟩,⟨rfl,rfl⟩,⟨rfl,rfl⟩,⟨rfl,rfl⟩,⟨rfl,rfl⟩,trivial⟩,rfl⟩
 have hlt:k<(aV zs).length:=by simpa using h1
 obtain⟨a,ha⟩:∃a,(aV zs)[k]? =some a:=⟨_,ai hlt⟩
 have ham:=aq ha;rw[drop_cons ha]at hinv;have hinv:ng zs (dE zs r' a) ((aV zs).drop (k+1))=iF zs r:=hinv;have same:il zs r' a=false->dE zs r' a=r' :=fun h=>by unfold dE;rw[if_neg (by rw[h];simp)]
 have more:il zs r' a=true->dE zs r' a=r' ++[a]:=fun h=>by unfold dE;rw[if_pos h]
 refine⟨aH k,aA a,aU ha,?_⟩
 conv=>whnf
 rw[mq];have roadlen:(jd zs a).homes.length<=100000:=by
  unfold jd;cases hd:cK zs a with
  | none=>exact Nat.zero_le _
  | some p =>
   have hav:aj a=true:=nI hg ((iO zs a).2 (mf.1 ham));obtain⟨_,_,_,_,_,hl⟩:=oW hg hav hd;have:=so zs p.2 (cE p.2);dsimp only;omega
 cases hc:r'.contains a with
 | true =>
  have hgo:il zs r' a=false:=by unfold il;rw[hc];rfl
  rw[same hgo]at hinv
  conv=>whnf
  exact⟨(k+1,r'),⟨hlt,hinv,hle⟩,by(show(aV zs).length-(k+1)<(aV zs).length-k;omega),an.keep ⟨⟨rfl,rfl⟩,⟨rfl,rfl⟩,⟨rfl,rfl⟩,⟨rfl,rfl⟩,⟨rfl,rfl⟩,⟨rfl,rfl⟩,⟨rfl,rfl⟩,⟨au (by omega),rfl⟩,trivial⟩ ⟨⟨rfl,rfl⟩,⟨rfl,rfl⟩,⟨rfl,rfl⟩,⟨rfl,rfl⟩,⟨rfl,rfl⟩,trivial⟩⟩
 | false =>
  have hnew : il zs r' a = true -> an cxZ ⟨[(0, .ptr 100004 0), (1, .ptr 100008 0), (2, .ptr 100005 0), (3, .ptr 100009 0), (5, .d (.bool true)), (9, .d (.slice 1 ((aV zs).map aA))), (10, .d (.int .i64 (((aV zs).map aA).length : Int))), (11, .d (.int .i64 ((k + 1 : Nat) : Int)))], [(100004, .box ((de zs).map .d)), (100005, .box [.d (.kmap ((ml zs (aV zs)).map iB))]), (100008, .box [.omap 33]), (100009, .box [isR]), (33, .smap (cH a (.bool true) (eZ r')))]⟩
      ⟨[(0, .ptr 100004 0),(1, .ptr 100008 0),(2, .ptr 100005 0),(3, .ptr 100009 0),(5, .d (.bool (decide (r.length<(r' ++[a]).length)))),(9, .d (.slice 1 ((aV zs).map aA))),(10, .d (.int .i64 (((aV zs).map aA).length:Int))),(11, .d (.int .i64 ((k+1:Nat):Int)))],hG zs (r' ++[a])⟩:=fun _=>by
   refine an.keep ⟨⟨rfl,rfl⟩,⟨rfl,rfl⟩,⟨rfl,rfl⟩,⟨rfl,rfl⟩,⟨?_,rfl⟩,⟨rfl,rfl⟩,⟨rfl,rfl⟩,⟨rfl,rfl⟩,trivial⟩ ⟨⟨rfl,rfl⟩,⟨rfl,rfl⟩,⟨rfl,rfl⟩,⟨rfl,rfl⟩,⟨congrArg (fun m=>some (Blk.smap m)) (tR hc),rfl⟩,trivial⟩;rw[decide_eq_true (by simp;omega)];rfl
  conv=>whnf
  cases h46:(a==[46])with
  | true =>
   have hgo:il zs r' a=true:=by unfold il;rw[hc,h46];rfl
   rw[more hgo]at hinv
   conv=>whnf
   refine⟨(k+1,r' ++[a]),⟨hlt,hinv,by simp;omega⟩,by(show(aV zs).length-(k+1)<(aV zs).length-k;omega),an.trans ?_ (hnew hgo)⟩;exact an.keep ⟨⟨rfl,rfl⟩,⟨rfl,rfl⟩,⟨rfl,rfl⟩,⟨rfl,rfl⟩,⟨rfl,rfl⟩,⟨rfl,rfl⟩,⟨rfl,rfl⟩,⟨au (by omega),rfl⟩,trivial⟩ ⟨⟨rfl,rfl⟩,⟨rfl,rfl⟩,⟨rfl,rfl⟩,⟨rfl,rfl⟩,⟨rfl,rfl⟩,trivial⟩
  | false =>
   conv=>whnf
   refine⟨_,I2 zs ham,?_⟩
   conv=>whnf
   refine⟨[100004,100005],_,_,K9 (jd zs a) r' roadlen,⟨⟨by kernel_rfl,by kernel_rfl⟩,by kernel_rfl,by kernel_rfl,by kernel_rfl⟩,?_⟩
   conv=>whnf
   cases ho:ou (jd zs a) r'.contains with
   | true =>
    have hgo:il zs r' a=true:=by unfold il;rw[hc,ho];simp
    rw[more hgo]at hinv
    conv=>whnf
    refine⟨(k+1,r' ++[a]),⟨hlt,hinv,by simp;omega⟩,by(show(aV zs).length-(k+1)<(aV zs).length-k;omega),an.trans ?_ (hnew hgo)⟩;exact an.keep ⟨⟨rfl,rfl⟩,⟨rfl,rfl⟩,⟨rfl,rfl⟩,⟨rfl,rfl⟩,⟨rfl,rfl⟩,⟨rfl,rfl⟩,⟨rfl,rfl⟩,⟨au (by omega),rfl⟩,trivial⟩ ⟨⟨rfl,rfl⟩,⟨rfl,rfl⟩,⟨rfl,rfl⟩,⟨rfl,rfl⟩,⟨rfl,rfl⟩,trivial⟩
   | false =>
    have hgo:il zs r' a=false:=by unfold il;rw[hc,ho,h46];rfl
    rw[same hgo]at hinv
    conv=>whnf
    exact⟨(k+1,r'),⟨hlt,hinv,hle⟩,by(show(aV zs).length-(k+1)<(aV zs).length-k;omega),an.keep ⟨⟨rfl,rfl⟩,⟨rfl,rfl⟩,⟨rfl,rfl⟩,⟨rfl,rfl⟩,⟨rfl,rfl⟩,⟨rfl,rfl⟩,⟨rfl,rfl⟩,⟨au (by omega),rfl⟩,trivial⟩ ⟨⟨rfl,rfl⟩,⟨rfl,rfl⟩,⟨rfl,rfl⟩,⟨rfl,rfl⟩,⟨rfl,rfl⟩,trivial⟩⟩
end Go.Proofs.YtjapjahfllomkaaGreatDoor
namespace NP
open NQ Go
def pd:Nat->List Bs->List (Bs×D)
 | _,[]=>[]
 | i,a::t=>(a, .int .i64 (i:Nat))::pd (i+1) t
theorem vu(a:Bs):∀(l:List Bs) (i:Nat),cG a (pd i l)=if l.contains a=true then some (.int .i64 ((i+l.idxOf a:Nat):Int))else none
 | [],i=>rfl
 | b::t,i=>by
  show(if a=b then _ else cG a (pd (i+1) t))=_
  rw[vu a t (i+1),List.contains_cons,List.idxOf_cons];by_cases h:a=b
  . subst h;simp
  . have h1:(a==b)=false:=by simpa using h
    have h2:(b==a)=false:=by simpa using fun e:b=a=>h e.symm
    rw[if_neg h,h1,h2,az];by_cases hc:t.contains a=true
    . rw[if_pos hc,if_pos hc];have e:i+1+t.idxOf a=i+(t.idxOf a+1):=by omega
      rw[e];rfl
    . rw[if_neg hc,if_neg hc]
theorem xJ{a:Bs}:∀{l:List Bs} {i:Nat},l.contains a=false->cH a (.int .i64 ((i+l.length:Nat):Int)) (pd i l)=pd i (l++[a])
 | [],i,_=>rfl
 | b::t,i,h=>by
  rw[List.contains_cons,Bool.or_eq_false_iff]at h;have hne:¬a=b:=by simpa using h.1
  show(if a=b then _ else(b,_)::cH a _ (pd (i+1) t))=_
  have e:i+(b::t).length=i+1+t.length:=by simp;omega
  rw[if_neg hne,e,xJ (l:=t) h.2];rfl
theorem Dl{zs:List ag}{f:Nat}{met:List Bs}{s:Bs}(h:met.contains s=true):jC zs (f+1) met s=(met.drop (met.idxOf s),true):=by rw[jC,if_pos h]
theorem AX{zs:List ag}{f:Nat}{met:List Bs}{s:Bs}(h:met.contains s=false)(hl:oq zs s=none):jC zs (f+1) met s=([],false):=by rw[jC,if_neg (by rw[h];simp),hl]
theorem AY{zs:List ag}{f:Nat}{met:List Bs}{s n:Bs}(h:met.contains s=false)(hl:oq zs s=some n):jC zs (f+1) met s=jC zs f (met++[s]) n:=by rw[jC,if_neg (by rw[h];simp),hl]
theorem D6{zs:List ag}(hf:∀p∈zs,eI p.zone=true):(gM zs).length<=zs.length*2000:=by
 unfold gM;induction zs with
 | nil=>simp
 | cons p t ih =>
  have h1:=dH (hf p (List.mem_cons_self ..));have h2:=ih fun q hq=>hf q (aW _ hq)
  have h3:∀l:List Signed,(∀s∈l,s.set.data.length<=20)->(l.flatMap fun s=>s.set.data.map (·.text)).length<=20*l.length:=fun l=>by
   induction l with
   | nil=>intro _;simp
   | cons s r ih2 =>
    intro hs;have a1:=hs s (List.mem_cons_self ..);have a2:=ih2 fun x hx=>hs x (aW _ hx)
    rw[List.flatMap_cons,List.length_append,ao,List.length_cons];omega
  have h4:=h3 p.zone.sets fun s hs=>(h1.2 s hs).1
  rw[List.flatMap_cons,List.length_append,List.length_cons];omega
end NP
namespace Go.Proofs.YtjapjahfllomkaaGreatDoor
open NQ Go NP Go.RowKit
theorem Dn(l:List Bs)(hl:l.length<=1000000):NQ.Fn cx 126 [.slice 1 (l.map aA)] (.d (.slice 1 (l.map aA))) []:=by
 refine aO bf mixed Tryz.func126 (by kernel_rfl) rfl (ah rfl) ?_;conv=>whnf
 refine⟨fun h=>?_,?_⟩
 . refine af rfl ?_;rw[List.isEmpty_iff.1 h];rfl
 . conv=>whnf
   refine⟨by(show 0+(l.map aA).length<=_;simp;omega),by(show(0+(l.map aA).length)*16<=_;simp;omega),?_⟩
   conv=>whnf
   exact af rfl rfl
theorem uE(w:bJ)(hF:kR w)(hv:cF w=true):NQ.Fn cx 72 [.agg (cv w)] (.agg ((de w.zones).map .d)) [] :=
 Ch w (fun p hp=>(bz (pj hv p hp).1).apex) (by have:=hF.zones;omega)
theorem si(w:bJ)(a:Bs)(hF:kR w)(h:dS w a=0):NQ.Fn cx 91 [.agg (cv w), .str a] (.tuple [.agg ((de w.zones).map .d), .d (.int .i64 0)]) []:=by
 obtain⟨hv,ha,hc⟩:=l7 h;have fV:=pU w hF;rw[hv]at fV;have fN:=iQ a;rw[ha]at fN;obtain⟨x,hx⟩:=Option.isSome_iff_exists.1 hc;have hk:=nW w.zones a;rw[hx]at hk;refine aO bf mixed Tryz.func91 (by kernel_rfl) rfl (ah rfl) ?_;conv=>whnf
 (refine⟨_,_,fV,?_⟩;conv=>whnf)
 (refine⟨_,_,fN,?_⟩;conv=>whnf)
 (refine⟨_,_,uE w hF hv,?_⟩;conv=>whnf)
 refine⟨_,hk,?_⟩
 conv=>whnf
 exact af rfl rfl
theorem qC(w:bJ)(a:Bs)(hF:kR w)(h:dS w a ≠ 0):NQ.Fn cx 91 [.agg (cv w), .str a] (.tuple [.agg [.d .nmap, .nil 1], .d (.int .i64 (dS w a))]) []:=by
 have fV:=pU w hF;have fN:=iQ a;unfold dS at h ⊢;refine aO bf mixed Tryz.func91 (by kernel_rfl) rfl (ah rfl) ?_;conv=>whnf
 (refine⟨_,_,fV,?_⟩;conv=>whnf)
 cases hv:cF w with
 | false =>
  rw[if_pos (by rfl)]
  conv=>whnf
  exact rV (bs:=[]) (by kernel_rfl) (by kernel_rfl) trivial
 | true =>
  conv=>whnf
  (refine⟨_,_,fN,?_⟩;conv=>whnf)
  cases ha:aj a with
  | false =>
   rw[if_pos (by rfl)]
   conv=>whnf
   exact rV (bs:=[]) (by kernel_rfl) (by kernel_rfl) trivial
  | true =>
   rw[hv,ha,if_neg (by simp)]at h;rw[if_neg (by simp)];have hc:bX w.zones a=none:=by
    cases hc:bX w.zones a with
    | none=>rfl
    | some x=>rw[hc]at h;exact absurd rfl h
   have hk:=nW w.zones a;rw[hc]at hk;rw[hc]
   conv=>whnf
   (refine⟨_,_,uE w hF hv,?_⟩;conv=>whnf)
   refine⟨_,hk,?_⟩
   conv=>whnf
   exact rV (bs:=[]) (by kernel_rfl) (by kernel_rfl) trivial
theorem tD(w:bJ)(a:Bs)(hF:kR w):NQ.Fn cx 38 [.agg (cv w), .str a] (.tuple [.d (.slice 1 ((mg w a).1.map aA)), .d (.int .i64 (mg w a).2)]) []:=by
 unfold mg;by_cases h:dS w a=0
 . obtain⟨hv,ha,hc⟩:=l7 h;rw[if_pos h];refine aO bf mixed Tryz.func38 (by kernel_rfl) rfl (ah rfl) ?_;conv=>whnf
   (refine⟨_,_,si w a hF h,?_⟩;conv=>whnf)
   (refine⟨_,_,Cg w.zones a (xo hF hv) ha,?_⟩;conv=>whnf)
   exact af rfl rfl
 . rw[if_neg h];have fB:=qC w a hF h;generalize dS w a=e at *
   have he:(e != 0)=true:=by simpa using h
   refine aO bf mixed Tryz.func38 (by kernel_rfl) rfl (ah rfl) ?_;conv=>whnf
   (refine⟨_,_,fB,?_⟩;conv=>whnf)
   rw[he]
   conv=>whnf
   exact af rfl rfl
set_option maxHeartbeats 1000000 in
theorem y7(w:bJ)(s0:Bs)(hF:kR w)(hz:w.zones.length<=20):NQ.Fn cx 67 [.agg (cv w), .str s0] (.tuple [.d (.slice 1 ((qt w s0).1.map aA)), .d (.bool (qt w s0).2.1), .d (.int .i64 (qt w s0).2.2)]) []:=by
 have fV:=pU w hF;have fN:=iQ s0;unfold qt;refine cR (fun | 8=>[9] | _=>[]) bf mixed Tryz.func67 (by kernel_rfl) rfl (ah rfl) ?_
 conv=>whnf
 (refine⟨_,_,fV,?_⟩;conv=>whnf)
 cases hv:cF w with
 | false =>
  rw[if_pos (by rfl)]
  conv=>whnf
  exact af rfl rfl
 | true =>
 conv=>whnf
 (refine⟨_,_,fN,?_⟩;conv=>whnf)
 cases hs0:aj s0 with
 | false =>
  rw[if_pos (by rfl)]
  conv=>whnf
  exact af rfl rfl
 | true =>
 rw[if_neg (by simp)];have hg:=xo hF hv;have htl:=D6 (zs:=w.zones) hF.few
 conv=>whnf
 (refine⟨_,_,uE w hF hv,?_⟩;conv=>whnf)
 refine⟨Nat×List Bs×Bs,fun x=>⟨[(1, .d (.str x.2.2)),(7, .ptr 7 0),(8, .omap 24),(9, .own 9)],[(7, .box ((de w.zones).map .d)),(24, .smap (pd 0 x.2.1)),(9, .row 9 1 (x.2.1.map aA))]⟩,
  fun x=>x.1+x.2.1.length=(gM w.zones).length+2/\x.2.1.Nodup/\aj x.2.2=true/\(∀n∈x.2.1,n=s0\/n∈gM w.zones)/\(x.2.2=s0\/x.2.2∈gM w.zones)/\jC w.zones x.1 x.2.1 x.2.2=AZ w.zones s0,fun x=>x.1,
  ⟨((gM w.zones).length+2,[],s0),⟨rfl,List.nodup_nil,hs0,(fun n h=>by cases h), .inl rfl,rfl⟩,(an.lM 9 9 1 9 1 rfl rfl (by decide)).trans (an.keep ⟨⟨rfl,rfl⟩,⟨rfl,rfl⟩,⟨rfl,rfl⟩,⟨rfl,rfl⟩,trivial⟩ ⟨⟨rfl,rfl⟩,⟨rfl,rfl⟩,⟨rfl,rfl⟩,trivial⟩)⟩,fun⟨f,met,s⟩ ⟨hf,hnd,hsv,hin,hs,hinv⟩=>?_⟩
 dsimp only at hf hnd hsv hin hs hinv ⊢;have hml:met.length<=(gM w.zones).length+1:=by
  have:=jv hnd (m:=s0::gM w.zones) fun n hn=>by
   rcases hin n hn with e | e
   . exact List.mem_cons.2 (.inl e)
   . exact aW _ e
  simpa using this
 obtain⟨f,rfl⟩:∃g,f=g+1:=⟨f-1,by omega⟩
 conv=>whnf
 rw[vu];cases hm:met.contains s with
 | true =>
  rw[Dl hm]at hinv;have hix:met.idxOf s<=met.length:=List.idxOf_le_length
  conv=>whnf
  refine⟨by(show(0:Int)<=((0+met.idxOf s:Nat):Int));exact aH _,by(show((0+met.idxOf s:Nat):Int)<=((met.map aA).length:Int));rw[ao];omega,Int.le_refl _,?_⟩
  conv=>whnf
  have e:(met.map aA).drop ((0+met.idxOf s:Nat):Int).toNat=(met.drop (met.idxOf s)).map aA:=by
   rw[Nat.zero_add,Int.toNat_natCast,List.map_drop]
  rw[e];have e2:((met.drop (met.idxOf s)).map aA).take (((met.map aA).length:Int).toNat-((0+met.idxOf s:Nat):Int).toNat)=(met.drop (met.idxOf s)).map aA :=
   List.take_of_length_le (by rw[ao,List.length_drop,ao];omega)
  rw[e2]
  (refine⟨_,_,Dn (met.drop (met.idxOf s)) (by rw[List.length_drop];omega),?_⟩;conv=>whnf)
  refine af rfl ?_;rw[<- hinv];rfl
 | false =>
  conv=>whnf
  refine⟨by(show(met.map aA).length+1<=_);simp;omega,by(show((met.map aA).length+1)*16<=_);simp;omega,?_⟩
  conv=>whnf
  (refine⟨_,_,FJ w.zones ⟨s,1⟩ hg (IX hsv),?_⟩;conv=>whnf)
  cases hl:oq w.zones s with
  | none =>
   rw[AX hm hl]at hinv;cases hok:(gE w.zones ⟨s,1⟩).2 with
   | false =>
    conv=>whnf
    refine af rfl ?_;rw[<- hinv];rfl
   | true =>
    have hk:((gE w.zones ⟨s,1⟩).1.kind != 3)=true:=by
     unfold oq at hl;rw[hok,aE]at hl;split at hl
     . cases hl
     . rename_i h;simpa [bne] using h
    conv=>whnf
    rw[hk]
    conv=>whnf
    refine af rfl ?_;rw[<- hinv];rfl
  | some n =>
   rw[AY hm hl]at hinv;obtain⟨hnv,hnt,a,t,R,d,h1,h2,h3,h4,h5⟩:=M5 hg hsv hl;rw[h1];have hk:(a.kind != 3)=false:=by rw[h2];rfl
   conv=>whnf
   rw[hk]
   conv=>whnf
   rw[h3];refine⟨by decide,aw t,rfl,?_⟩
   conv=>whnf
   refine⟨by decide,cz d,(by rw[h4];rfl:(t.set.data.map cz)[(0:Int).toNat]? =some (cz d)),?_⟩
   conv=>whnf
   have hsn:s ∉ met:=fun e=>by rw[c8.2 e]at hm;cases hm
   refine⟨(f,met++[s],n),⟨by simp;omega,?_,hnv,fun x hx=>?_, .inr hnt,hinv⟩,by(show f<f+1;omega),an.keep ⟨⟨by rw[h5];rfl,rfl⟩,⟨rfl,rfl⟩,⟨rfl,rfl⟩,⟨rfl,rfl⟩,trivial⟩ ⟨⟨rfl,rfl⟩,⟨?_,rfl⟩,⟨?_,rfl⟩,trivial⟩⟩
   . rw[List.nodup_append];exact⟨hnd,by simp,fun x hx y hy=>by rw[List.mem_singleton]at hy;subst hy;exact fun e=>hsn (e ▸ hx)⟩
   . rcases List.mem_append.1 hx with hx | hx
     . exact hin x hx
     . rw[List.mem_singleton]at hx;rw[hx];exact hs
   . have:=xJ (i:=0) hm;rw[Nat.zero_add]at this;rw[<- this,show met.length=(met.map aA).length from(ao _).symm];rfl
   . rw[List.map_append];rfl
set_option maxHeartbeats 2000000 in
theorem Ai(w:bJ)(hF:kR w):NQ.Fn cx 28 [.agg (cv w)] (.tuple [.d (.slice 1 ((uj w).1.map aA)), .d (.int .i64 (uj w).2)]) []:=by
 show NQ.Fn cxZ _ _ _ _
 have fV:=pU w hF;unfold uj;refine pC (fun | 10=>[19] | 12=>[44444] | 13=>[88888] | _=>[]) tyZ qI Tryz.func28 (by kernel_rfl) rfl (ah rfl) ?_
 conv=>whnf
 (refine⟨_,_,fV,?_⟩;conv=>whnf)
 cases hv:cF w with
 | false =>
  rw[if_neg (by simp)]
  conv=>whnf
  exact af rfl rfl
 | true =>
 rw[if_pos rfl];have hg:=xo hF hv;have hzl:=hF.zones;have hal:=lg w.zones;have hav:∀a∈aV w.zones,aj a=true:=fun a ha=>nI hg ((iO w.zones a).2 (mf.1 ha))
 conv=>whnf
 (refine⟨_,_,uE w hF hv,?_⟩;conv=>whnf)
 refine ⟨Nat, fun k => ⟨[(4, .ptr 4 0), (5, .ptr 5 0), (21, .d (.slice 1 ((aV w.zones).map aA))), (22, .d (.int .i64 (((aV w.zones).map aA).length : Int))), (23, .d (.int .i64 k))],
     [(4, .box ((de w.zones).map .d)),(5, .box [.omap 19]),(19, .smap (ml w.zones ((aV w.zones).take k)))]⟩,fun k=>k<=(aV w.zones).length,fun k=>(aV w.zones).length-k,
  ⟨0,Nat.zero_le _,an.keep ⟨⟨rfl,rfl⟩,⟨rfl,rfl⟩,⟨rfl,rfl⟩,⟨rfl,rfl⟩,⟨rfl,rfl⟩,trivial⟩ ⟨⟨rfl,rfl⟩,⟨rfl,rfl⟩,⟨rfl,rfl⟩,trivial⟩⟩,fun k hk=>?_⟩
 dsimp only at hk ⊢
 conv=>whnf
 refine ae (fun h1=>?_) (fun h1=>?_) <;> (rw[h1];conv=>whnf)
 . have hlt:k<(aV w.zones).length:=by simpa using h1
   obtain⟨a,ha⟩:∃a,(aV w.zones)[k]? =some a:=⟨_,ai hlt⟩
   have ham:=aq ha;have hnew:((aV w.zones).take k).contains a=false:=by
    rw[Bool.eq_false_iff];intro e;obtain⟨j,hj⟩:=b5 (c8.1 e);have hjl:=(ar.1 hj).1;rw[List.length_take]at hjl;rw[List.getElem?_take_of_lt (by omega)]at hj;have:=zE (A3 w.zones) hj ha;omega
   refine⟨aH k,aA a,aU ha,?_⟩
   conv=>whnf
   (refine⟨(by kernel_rfl:bH _ _=true),?_⟩;conv=>whnf)
   (refine⟨_,_,Ns w.zones a hg (hav a ham),?_⟩;conv=>whnf)
   refine⟨k+1,hlt,by(show(aV w.zones).length-(k+1)<(aV w.zones).length-k;omega),an.keep ⟨⟨rfl,rfl⟩,⟨rfl,rfl⟩,⟨rfl,rfl⟩,⟨rfl,rfl⟩,⟨au (by omega),rfl⟩,trivial⟩ ⟨⟨rfl,rfl⟩,⟨rfl,rfl⟩,⟨?_,rfl⟩,trivial⟩⟩;rw[bt ha, <- xR w.zones hnew];rfl
 . obtain rfl:k=(aV w.zones).length:=by simp at h1;omega
   rw[List.take_length];refine⟨⟨[(4, .ptr 100004 0),(5, .ptr 100005 0),(8, .ptr 100008 0),(9, .ptr 100009 0)],hG w.zones []⟩,(gZ.ren [4,5,8,9] (by kernel_rfl)).trans (an.zero (an.keep ⟨⟨(by kernel_rfl),(by kernel_rfl)⟩,⟨(by kernel_rfl),(by kernel_rfl)⟩,⟨(by kernel_rfl),(by kernel_rfl)⟩,⟨(by kernel_rfl),(by kernel_rfl)⟩,trivial⟩ ⟨⟨(by kernel_rfl),(by kernel_rfl)⟩,⟨(by kernel_rfl),(by kernel_rfl)⟩,⟨(by kernel_rfl),(by kernel_rfl)⟩,⟨(by kernel_rfl),(by kernel_rfl)⟩,⟨(by kernel_rfl),(by kernel_rfl)⟩,trivial⟩)),?_⟩
   conv=>whnf
   refine⟨List Bs,fun r=>⟨[(4, .ptr 100004 0),(8, .ptr 100008 0),(10, .fn 75 [] [.ptr 100004 0, .ptr 100008 0, .ptr 100005 0, .ptr 100009 0])],hG w.zones r⟩,
    fun r=>NP.Reach w.zones r/\ ∃k,tK w.zones k r=mj w.zones/\(aV w.zones).length<k+r.length,fun r=>(aV w.zones).length+1-r.length,
    ⟨[],⟨NP.Reach.nil _,(aV w.zones).length+1,rfl,by simp⟩,an.keep ⟨⟨rfl,rfl⟩,⟨rfl,rfl⟩,⟨rfl,rfl⟩,trivial⟩ ⟨⟨rfl,rfl⟩,⟨rfl,rfl⟩,⟨rfl,rfl⟩,⟨rfl,rfl⟩,⟨rfl,rfl⟩,trivial⟩⟩,fun r ⟨hR,k,hk,hkl⟩=>?_⟩
   conv=>whnf
   refine⟨[],_,_,KL w.zones r hg hzl,⟨⟨by kernel_rfl,by kernel_rfl⟩,by kernel_rfl,by kernel_rfl,by kernel_rfl⟩,?_⟩
   conv=>whnf
   refine ae (fun h2=>?_) (fun h2=>?_) <;> (rw[h2];conv=>whnf)
   . have hlt:r.length<(iF w.zones r).length:=of_decide_eq_true h2;have hlen:=hR.next.len
     have hlen' :=hR.len;obtain⟨k,rfl⟩:∃j,k=j+1:=⟨k-1,by
      have:0<k:=by
       rcases Nat.eq_zero_or_pos k with e | e
       . omega
       . exact e
      omega⟩
     exact⟨iF w.zones r,⟨hR.next,k,hk,by omega⟩,by(show(aV w.zones).length+1-(iF w.zones r).length<(aV w.zones).length+1-r.length;omega),an.keep ⟨⟨rfl,rfl⟩,⟨rfl,rfl⟩,⟨rfl,rfl⟩,trivial⟩ ⟨⟨rfl,rfl⟩,⟨rfl,rfl⟩,⟨rfl,rfl⟩,⟨rfl,rfl⟩,⟨rfl,rfl⟩,trivial⟩⟩
   . have hnot:¬r.length<(iF w.zones r).length:=of_decide_eq_false h2;have hle:r.length<=(iF w.zones r).length:=s9 w.zones (aV w.zones) r;have hfix:iF w.zones r=r:=(zm (by show(iF w.zones r).length=r.length;omega)).1;rw[xO hfix]at hk;rw[hfix,hk];have hfl:∀j,(((aV w.zones).take j).filter fun a=> !(mj w.zones).contains a).length<=1000:=fun j=>by
      have:=List.length_filter_le (fun a=> !(mj w.zones).contains a) ((aV w.zones).take j);have:=List.length_take_le' j (aV w.zones);omega
     refine ⟨Nat, fun j => ⟨[(8, .ptr 100008 0), (11, .own 11), (39, .d (.slice 1 ((aV w.zones).map aA))), (40, .d (.int .i64 (((aV w.zones).map aA).length : Int))), (41, .d (.int .i64 j))],
         [(100008, .box [.omap 33]),(33, .smap (eZ (mj w.zones))),(11, .row 9 1 ((((aV w.zones).take j).filter fun a=> !(mj w.zones).contains a).map aA))]⟩,fun j=>j<=(aV w.zones).length,fun j=>(aV w.zones).length-j,
      ⟨0,Nat.zero_le _,(an.lM 11 11 1 9 1 rfl rfl (by decide)).trans (an.keep ⟨⟨rfl,rfl⟩,⟨rfl,rfl⟩,⟨rfl,rfl⟩,⟨rfl,rfl⟩,⟨rfl,rfl⟩,trivial⟩ ⟨⟨rfl,rfl⟩,⟨rfl,rfl⟩,⟨rfl,rfl⟩,trivial⟩)⟩,fun j hj=>?_⟩
     dsimp only at hj ⊢
     conv=>whnf
     refine ae (fun h3=>?_) (fun h3=>?_) <;> (rw[h3];conv=>whnf)
     . have hlt:j<(aV w.zones).length:=by simpa using h3
       obtain⟨a,ha⟩:∃a,(aV w.zones)[j]? =some a:=⟨_,ai hlt⟩
       have hf:=hfl j;refine⟨aH j,aA a,aU ha,?_⟩
       conv=>whnf
       rw[mq];cases hc:(mj w.zones).contains a with
       | true =>
        conv=>whnf
        refine⟨j+1,hlt,by(show(aV w.zones).length-(j+1)<(aV w.zones).length-j;omega),an.keep ⟨⟨rfl,rfl⟩,⟨rfl,rfl⟩,⟨rfl,rfl⟩,⟨rfl,rfl⟩,⟨au (by omega),rfl⟩,trivial⟩ ⟨⟨rfl,rfl⟩,⟨rfl,rfl⟩,⟨?_,rfl⟩,trivial⟩⟩;rw[bt ha,List.filter_append,List.filter_cons_of_neg (by rw[hc];simp),List.filter_nil,List.append_nil];rfl
       | false =>
        conv=>whnf
        refine⟨by(show((((aV w.zones).take j).filter fun a=> !(mj w.zones).contains a).map aA).length+1<=_);rw[ao];omega,by(show(((((aV w.zones).take j).filter fun a=> !(mj w.zones).contains a).map aA).length+1)*16<=_);rw[ao];omega,?_⟩
        conv=>whnf
        refine⟨j+1,hlt,by(show(aV w.zones).length-(j+1)<(aV w.zones).length-j;omega),an.keep ⟨⟨rfl,rfl⟩,⟨rfl,rfl⟩,⟨rfl,rfl⟩,⟨rfl,rfl⟩,⟨au (by omega),rfl⟩,trivial⟩ ⟨⟨rfl,rfl⟩,⟨rfl,rfl⟩,⟨?_,rfl⟩,trivial⟩⟩;rw[bt ha,List.filter_append,List.filter_cons_of_pos (by rw[hc];rfl),List.filter_nil,List.map_append];rfl
     . obtain rfl:j=(aV w.zones).length:=by simp at h3;omega
       rw[List.take_length];exact af rfl rfl
end Go.Proofs.YtjapjahfllomkaaGreatDoor
namespace NP
open NQ Go
def beM(be:List (Bs×Bs)):List (Bs×D):=be.map fun p=>(p.1, .str p.2)
theorem vY(n:Bs):∀be:List (Bs×Bs),cG n (beM be)=if mo be n=true then some (.str (ov be n))else none
 | []=>rfl
 | (b,v)::t=>by
  show(if n=b then _ else cG n (beM t))=_
  rw[vY n t];unfold mo ov;rw[List.any_cons,List.find?_cons];by_cases h:n=b
  . subst h;simp
  . have:(b==n)=false:=by simpa using fun e:b=n=>h e.symm
    rw[if_neg h,this,az]
theorem Eo{n a:Bs}:∀{be:List (Bs×Bs)},mo be n=false->cH n (.str a) (beM be)=beM (be++[(n,a)])
 | [],_=>rfl
 | (b,v)::t,h=>by
  have h:((b==n)||mo t n)=false:=h;rw[Bool.or_eq_false_iff]at h;have hne:¬n=b:=fun e=>by have:=h.1;rw[e]at this;simp at this
  show(if n=b then _ else(b,_)::cH n _ (beM t))=_
  rw[if_neg hne,Eo h.2];rfl
theorem pO{zone a:Bs}:∀(t qu:List Bs) (be:List (Bs×Bs)),be.length<=(dm zone a t qu be).2.2.length/\qu.length<=(dm zone a t qu be).2.1.length
 | [],qu,be=>⟨Nat.le_refl _,Nat.le_refl _⟩
 | n::t,qu,be=>by
  unfold dm;split
  . exact⟨Nat.le_refl _,Nat.le_refl _⟩
  . split
    . exact pO t qu be
    . have:=pO (zone:=zone) (a:=a) t (qu++[n]) (be++[(n,a)]);simp at this;omega
theorem JV{zs:List ag}(hg:eP zs){zone a:Bs}(hv:aj zone=true){f:Nat}{P qu:List Bs}{be:List (Bs×Bs)}{ds:List Nat}(h:iG zs zone P (a::qu) be ds)(hf:2*((aV zs).length-be.length)+(a::qu).length<f+1) :
 aj a=true/\(∀n∈bq zs a,n∈aV zs)/\(dm zone a (bq zs a) qu be).2.2.length<=(aV zs).length/\(dm zone a (bq zs a) qu be).2.1.length<=(aV zs).length+1 /\
  ((dm zone a (bq zs a) qu be).1=true-> ∃ds',iG zs zone P (a::(dm zone a (bq zs a) qu be).2.1) (dm zone a (bq zs a) qu be).2.2 ds') /\
  ((dm zone a (bq zs a) qu be).1=false-> ∃ds',iG zs zone (P++[a]) (dm zone a (bq zs a) qu be).2.1 (dm zone a (bq zs a) qu be).2.2 ds' /\2*((aV zs).length-(dm zone a (bq zs a) qu be).2.2.length)+(dm zone a (bq zs a) qu be).2.1.length<f):=by
 have ham:a∈zone::be.map (·.1):=by rw[<- h.all];simp
 have hav:aj a=true:=by
  rcases List.mem_cons.1 ham with rfl | hm
  . exact hv
  . obtain⟨p,hp,rfl⟩:=List.mem_map.1 hm;exact nI hg ((iO zs _).2 (mf.1 (h.keys p hp)))
 have hkeys:∀n∈bq zs a,n∈aV zs:=fun n hn=>mf.2 ((iO zs n).1 (tC hg hav n hn))
 obtain⟨ds',i1,i2,i3,i4,i5,i6⟩:=yQ hkeys (bq zs a) qu be ds h fun n hn=>hn
 have h1:=i1.Bb;have h2:=h.Bb;have h3:=pO (zone:=zone) (a:=a) (bq zs a) qu be;have h4:=congrArg List.length i1.all;simp only[List.length_append,List.length_cons,ao]at h4;refine⟨hav,hkeys,h1,by omega,fun _=>⟨ds',i1⟩,fun hs=>?_⟩;obtain⟨j1,j2⟩:=i3 hs;refine⟨ds',i1.next j1 j2,?_⟩;simp at hf;omega
theorem IV{zs:List ag}{zone last:Bs}{P Q:List Bs}{be:List (Bs×Bs)}{ds:List Nat}(h:iG zs zone P Q be ds){i:Nat}(hi:(zone::be.map (·.1))[i]? =some last)(hz:last ≠ zone) :
 mo be last=true/\ ∃i',i' <i/\(zone::be.map (·.1))[i']? =some (ov be last):=by
 obtain⟨j,rfl⟩:∃j,i=j+1:=by
  rcases i with _ | j
  . cases hi;exact absurd rfl hz
  . exact⟨j,rfl⟩
 have hi' :(be.map (·.1))[j]? =some last:=by simpa using hi
 refine⟨wJ.2 (aq hi'),?_⟩;rw[aT]at hi';cases hb:be[j]? with
 | none=>rw[hb]at hi';cases hi'
 | some pr =>
  obtain⟨n,a⟩:=pr;rw[hb]at hi';have:n=last:=by simpa using hi'
  subst this;obtain⟨hm,i',d,h1,h2,h3,h4⟩:=h.par j n a hb;rw[Nn h hb];exact⟨i',by omega,h2⟩
end NP
namespace Go.Proofs.YtjapjahfllomkaaGreatDoor
open NQ Go NP Go.RowKit
noncomputable def cxQ:Cx:={cx with chg:=fun g=>match Nat.beq g 130 with | true=>2 | false=>cx.chg g}
theorem tyQ:bA cxQ:=bf
theorem II:cxQ.P.follows .mixedOrders=true:=mixed
def inC:Code->Code
 | .scope c=>c
 | c=>c
def fzQ:Nat->List Nat
 | 9=>[88888]
 | 18=>[88888]
 | 20=>[55555]
 | _=>[]
theorem ID(zs:List ag)(zone:Bs)(x:Bs×List (Bs×Bs)){P Q:List Bs}{ds:List Nat}(h:iG zs zone P Q x.2 ds)(hx:x.1∈zone::x.2.map (·.1))(hl:x.2.length<=10000)(st:St)
 (hs:an cxQ st ⟨[(1, .d (.str zone)),(9, .omap 28),(10, .d (.str x.1)),(11, .d (.bool true))],[(28, .smap (beM x.2))]⟩) :
 vc cxQ Tryz.f69.ntmps fzQ (np 7 (inC (np 1 ((Tryz.f69.body).getD .skip)))) (fnQ cxQ Tryz.f69.results.toList (.tuple [.d (.slice 1 ((x.1::pM x.2 zone (x.2.length+1) x.1).reverse.map aA)), .d (.bool true), .d (.int .i64 0)]) []) st:=by
 obtain⟨last0,be⟩:=x;dsimp only at h hx hl hs ⊢;obtain⟨i0,hi0⟩:=b5 hx;have hi0l:i0<be.length+1:=by have:=(ar.1 hi0).1;simpa using this
 conv=>whnf
 refine⟨_,hs,?_⟩
 conv=>whnf
 refine⟨Nat×Bs×List Bs,fun y=>⟨[(1, .d (.str zone)),(9, .omap 28),(10, .d (.str y.2.1)),(18, .own 70)],[(28, .smap (beM be)),(70, .row 9 1 (y.2.2.map aA))]⟩,
  fun y=>y.2.2++pM be zone y.1 y.2.1=last0::pM be zone (be.length+1) last0/\(∃i,i<y.1/\(zone::be.map (·.1))[i]? =some y.2.1)/\y.1+y.2.2.length=be.length+2,fun y=>y.1,
  ⟨(be.length+1,last0,[last0]),⟨rfl,⟨i0,hi0l,hi0⟩,rfl⟩,an.keep ⟨⟨rfl,rfl⟩,⟨rfl,rfl⟩,⟨rfl,rfl⟩,⟨rfl,rfl⟩,trivial⟩ ⟨⟨rfl,rfl⟩,⟨rfl,rfl⟩,trivial⟩⟩,fun⟨f,last,l⟩ ⟨hinv,⟨i,hi,hil⟩,hfl⟩=>?_⟩
 dsimp only at hinv hi hil hfl ⊢;obtain⟨f,rfl⟩:∃g,f=g+1:=⟨f-1,by omega⟩
 rw[pM]at hinv
 conv=>whnf
 refine ae (fun h1=>?_) (fun h1=>?_) <;> (rw[h1];conv=>whnf)
 . have hne:last ≠ zone:=by simpa using h1
   rw[if_neg hne]at hinv;obtain⟨p1,i',p2,p3⟩:=IV h hil hne;rw[vY,p1]
   conv=>whnf
   refine⟨by(show(l.map aA).length+1<=_);simp;omega,by(show((l.map aA).length+1)*16<=_);simp;omega,?_⟩
   conv=>whnf
   refine⟨(f,ov be last,l++[ov be last]),⟨by rw[<- hinv];simp,⟨i',by omega,p3⟩,by simp;omega⟩,by(show f<f+1;omega),an.keep ⟨⟨rfl,rfl⟩,⟨rfl,rfl⟩,⟨rfl,rfl⟩,⟨rfl,rfl⟩,trivial⟩ ⟨⟨rfl,rfl⟩,⟨?_,rfl⟩,trivial⟩⟩;rw[List.map_append];rfl
 . have hz:last=zone:=by simpa using h1
   rw[if_pos hz,List.append_nil]at hinv;rw[<- hinv];refine⟨_,ig (cx' :=cxQ) rfl rfl (DY l (by omega) _),?_⟩
   conv=>whnf
   exact af rfl rfl
set_option maxHeartbeats 2000000 in
theorem IE(w:bJ)(zone:Bs)(hF:kR w):NQ.Fn cx 69 [.agg (cv w), .str zone] (.tuple [.d (.slice 1 ((tu w zone).1.map aA)), .d (.bool (tu w zone).2.1), .d (.int .i64 (tu w zone).2.2)]) []:=by
 show NQ.Fn cxQ _ _ _ _
 unfold tu;by_cases h0:dS w zone=0
 case neg =>
  rw[if_neg h0];have fB:=qC w zone hF h0;generalize dS w zone=e at *
  have he:(e != 0)=true:=by simpa using h0
  refine cR fzQ tyQ II Tryz.func69 (by kernel_rfl) rfl (ah rfl) ?_
  conv=>whnf
  (refine⟨_,_,fB,?_⟩;conv=>whnf)
  rw[he]
  conv=>whnf
  exact af rfl rfl
 obtain⟨hv,hzv,hzc⟩:=l7 h0;rw[if_pos h0];have hg:=xo hF hv;have hal:=lg w.zones;have hzl:=hF.zones;have hend:=ID w.zones zone;have hF0:Cb w.zones zone=match yl w.zones zone (2*(aV w.zones).length+2) [zone] []with | none=>[] | some x=>(x.1::pM x.2 zone (x.2.length+1) x.1).reverse:=rfl
 rw[hF0];refine cR fzQ tyQ II Tryz.func69 (by kernel_rfl) rfl (ah rfl) ?_
 conv=>whnf
 (refine⟨_,_,si w zone hF h0,?_⟩;conv=>whnf)
 refine⟨Nat×List Bs×List (Bs×Bs),fun x=>⟨[(1, .d (.str zone)),(7, .ptr 7 0),(9, .omap 28),(10, .d (.str [])),(11, .d (.bool false)),(12, .own 30)],[(7, .box ((de w.zones).map .d)),(28, .smap (beM x.2.2)),(30, .tail 9 1 (x.2.1.map aA))]⟩,
  fun x=>(∃P ds,iG w.zones zone P x.2.1 x.2.2 ds)/\2*((aV w.zones).length-x.2.2.length)+x.2.1.length<x.1/\yl w.zones zone x.1 x.2.1 x.2.2=yl w.zones zone (2*(aV w.zones).length+2) [zone] [],fun x=>x.1,
  ⟨(2*(aV w.zones).length+2,[zone],[]),⟨⟨[],[0],iG.start _ _⟩,by simp,rfl⟩,(an.tail 30 9 1 [aA zone] (by kernel_rfl)).trans (an.keep ⟨⟨rfl,rfl⟩,⟨rfl,rfl⟩,⟨rfl,rfl⟩,⟨rfl,rfl⟩,⟨rfl,rfl⟩,⟨rfl,rfl⟩,trivial⟩ ⟨⟨rfl,rfl⟩,⟨rfl,rfl⟩,⟨rfl,rfl⟩,trivial⟩)⟩,fun⟨f,qu,be⟩ ⟨⟨P,ds,hB⟩,hf,hinv⟩=>?_⟩
 dsimp only at hB hf hinv ⊢
 conv=>whnf
 cases qu with
 | nil =>
  obtain⟨f,rfl⟩:∃g,f=g+1:=⟨f-1,by omega⟩
  rw[<- hinv]
  conv=>whnf
  refine⟨_,an.refl _,?_⟩
  conv=>whnf
  exact af rfl rfl
 | cons a qu =>
  obtain⟨f,rfl⟩:∃g,f=g+1:=⟨f-1,by omega⟩
  obtain⟨hav,hkeys,b1,b2,hyes,hno⟩:=JV hg hzv hB hf;have hnl:(bq w.zones a).length<=(aV w.zones).length:=jv (qi w.zones a) hkeys;rw[yl]at hinv;have hpos:decide ((((a::qu).map aA).length:Int)>0)=true:=decide_eq_true (by simp);rw[show decide ((((a::qu).map aA).length:Int)>0)=true from hpos]
  conv=>whnf
  refine⟨by decide,by(show 0<((a::qu).map aA).length);simp,?_⟩
  conv=>whnf
  refine⟨aA a,rfl,?_⟩
  conv=>whnf
  refine⟨⟨by decide,by(show 1<=((a::qu).map aA).length);simp⟩,?_⟩
  conv=>whnf
  (refine⟨_,_,Cg w.zones a hg hav,?_⟩;conv=>whnf)
  generalize hS:dm zone a (bq w.zones a) qu be=S at *
  refine⟨Nat×List Bs×List (Bs×Bs),fun x=>⟨[(1, .d (.str zone)),(7, .ptr 7 0),(9, .omap 28),(10, .d (.str [])),(11, .d (.bool false)),(12, .own 30),(13, .d (.str a)),(41, .d (.slice 1 ((bq w.zones a).map aA))),(42, .d (.int .i64 (((bq w.zones a).map aA).length:Int))),(43, .d (.int .i64 x.1))],[(7, .box ((de w.zones).map .d)),(28, .smap (beM x.2.2)),(30, .tail 9 1 (x.2.1.map aA))]⟩,
   fun x=>x.1<=(bq w.zones a).length/\dm zone a ((bq w.zones a).drop x.1) x.2.1 x.2.2=S,fun x=>(bq w.zones a).length-x.1,
   ⟨(0,qu,be),⟨Nat.zero_le _,hS⟩,an.keep ⟨⟨rfl,rfl⟩,⟨rfl,rfl⟩,⟨rfl,rfl⟩,⟨rfl,rfl⟩,⟨rfl,rfl⟩,⟨rfl,rfl⟩,⟨rfl,rfl⟩,⟨rfl,rfl⟩,⟨rfl,rfl⟩,⟨rfl,rfl⟩,trivial⟩ ⟨⟨rfl,rfl⟩,⟨rfl,rfl⟩,⟨rfl,rfl⟩,trivial⟩⟩,fun⟨k,qu',be'⟩ ⟨hk,hsc⟩=>?_⟩
  dsimp only at hk hsc ⊢;have hgr:=pO (zone:=zone) (a:=a) ((bq w.zones a).drop k) qu' be';rw[hsc]at hgr
  conv=>whnf
  refine ae (fun h1=>?_) (fun h1=>?_) <;> (rw[h1];conv=>whnf)
  . have hlt:k<(bq w.zones a).length:=by simpa using h1
    obtain⟨n,hn⟩:∃n,(bq w.zones a)[k]? =some n:=⟨_,ai hlt⟩
    rw[drop_cons hn,dm]at hsc;refine⟨aH k,aA n,aU hn,?_⟩
    conv=>whnf
    refine ae (fun h2=>?_) (fun h2=>?_) <;> (rw[h2];conv=>whnf)
    . have hnz:n=zone:=by simpa using h2
      rw[if_pos hnz]at hsc;rw[<- hsc]at hyes hinv;obtain⟨ds',hB'⟩:=hyes rfl;rw[if_pos rfl]at hinv;rw[<- hinv];have hlen:=hB'.Bb;have hpl:decide (0<(a::pM be' zone (be'.length+1) a).reverse.length)=true:=decide_eq_true (by simp);dsimp only;rw[hpl];exact hend (a,be') hB' (by rw[<- hB'.all];simp) (by show be'.length<=10000;omega) _ (an.keep ⟨⟨rfl,rfl⟩,⟨rfl,rfl⟩,⟨rfl,rfl⟩,⟨rfl,rfl⟩,trivial⟩ ⟨⟨rfl,rfl⟩,trivial⟩)
    . have hnz:n ≠ zone:=by simpa using h2
      rw[if_neg hnz]at hsc;rw[vY];cases hse:mo be' n with
      | true =>
       rw[if_pos hse]at hsc
       conv=>whnf
       exact⟨(k+1,qu',be'),⟨hlt,hsc⟩,by(show(bq w.zones a).length-(k+1)<(bq w.zones a).length-k;omega),an.keep ⟨⟨rfl,rfl⟩,⟨rfl,rfl⟩,⟨rfl,rfl⟩,⟨rfl,rfl⟩,⟨rfl,rfl⟩,⟨rfl,rfl⟩,⟨rfl,rfl⟩,⟨rfl,rfl⟩,⟨rfl,rfl⟩,⟨au (by omega),rfl⟩,trivial⟩ ⟨⟨rfl,rfl⟩,⟨rfl,rfl⟩,⟨rfl,rfl⟩,trivial⟩⟩
      | false =>
       rw[if_neg (by rw[hse];simp)]at hsc
       conv=>whnf
       refine⟨by(show(qu'.map aA).length+1<=_);simp;omega,by(show((qu'.map aA).length+1)*16<=_);simp;omega,?_⟩
       conv=>whnf
       refine⟨(k+1,qu' ++[n],be' ++[(n,a)]),⟨hlt,hsc⟩,by(show(bq w.zones a).length-(k+1)<(bq w.zones a).length-k;omega),an.keep ⟨⟨rfl,rfl⟩,⟨rfl,rfl⟩,⟨rfl,rfl⟩,⟨rfl,rfl⟩,⟨rfl,rfl⟩,⟨rfl,rfl⟩,⟨rfl,rfl⟩,⟨rfl,rfl⟩,⟨rfl,rfl⟩,⟨au (by omega),rfl⟩,trivial⟩ ⟨⟨rfl,rfl⟩,⟨?_,rfl⟩,⟨?_,rfl⟩,trivial⟩⟩
       . rw[<- Eo hse];rfl
       . rw[List.map_append];rfl
  . obtain rfl:k=(bq w.zones a).length:=by simp at h1;omega
    rw[List.drop_length]at hsc;rw[<- hsc]at hno hinv;obtain⟨ds',hB',hf'⟩:=hno rfl;rw[if_neg (by simp[dm])]at hinv;exact⟨(f,qu',be'),⟨⟨P++[a],ds',hB'⟩,hf',hinv⟩,by(show f<f+1;omega),an.keep ⟨⟨rfl,rfl⟩,⟨rfl,rfl⟩,⟨rfl,rfl⟩,⟨rfl,rfl⟩,⟨rfl,rfl⟩,⟨rfl,rfl⟩,trivial⟩ ⟨⟨rfl,rfl⟩,⟨rfl,rfl⟩,⟨rfl,rfl⟩,trivial⟩⟩
end Go.Proofs.YtjapjahfllomkaaGreatDoor
namespace NP
open NQ Go
def uN(n:Bs)(t:Int)(to:Bs):fZ:=⟨n,t,0,[tx to]⟩
def Oe(a:Bs):fZ:=⟨a,4,0,[⟨[],1,0⟩]⟩
def gP(a host:Bs)(l:List fZ):List fZ:=uN a 2 host::Oe a::l
def sgn(s:fZ):Signed:=⟨s,[]⟩
def OJ(a host:Bs)(l:List fZ):aQ:=⟨a,(gP a host l).map sgn⟩
theorem zh{w:bJ}(h:pA w=true):kR w/\w.hosts.length<=70/\w.zones.length<=12:=by
 unfold pA at h;simp only[aP,decide_eq_true_eq]at h;obtain⟨h1,h2,_,_⟩:=Kw h.1;exact⟨h1,h2,by omega⟩
end NP
namespace Go.Proofs.YtjapjahfllomkaaGreatDoor
open NQ Go NP Go.RowKit
noncomputable def cxT:Cx:={cx with bld:=[11]}
theorem tyT:bA cxT:=bf
theorem N0:cxT.P.follows .mixedOrders=true:=mixed
noncomputable def Kj:Cx:={cx with bld:=[17]}
theorem OU:bA Kj:=bf
theorem M9:Kj.P.follows .mixedOrders=true:=mixed
noncomputable def Kk:Cx:={cx with bld:=[5,9,12,19,21,23]}
theorem OV:bA Kk:=bf
theorem Na:Kk.P.follows .mixedOrders=true:=mixed
noncomputable def Kl:Cx:={cx with bld:=[96,106,111,116]}
theorem OW:bA Kl:=bf
theorem Nb:Kl.P.follows .mixedOrders=true:=mixed
theorem nQ(n:Bs)(t:Int)(to:Bs):NQ.Fn cx 129 [.str n, .int .i64 t, .str to] (.agg ((jQ (uN n t to)).map .d)) []:=by
 show NQ.Fn cxT _ _ _ _
 refine cR (fun _=>[]) tyT N0 Tryz.func129 (by kernel_rfl) rfl (ah rfl) ?_
 conv=>whnf
 exact af rfl rfl
theorem ui(a host:Bs)(l:List fZ)(hl:l.length<=1000):NQ.Fn cx 128 [.str a, .str host, .slice 4 (l.map jQ)] (.agg ((bp (OJ a host l)).map .d)) []:=by
 show NQ.Fn Kj _ _ _ _
 refine cR (fun | 7=>[200] | _=>[]) OU M9 Tryz.func128 (by kernel_rfl) rfl (ah rfl) ?_
 conv=>whnf
 (refine⟨_,_,nQ a 2 host,?_⟩;conv=>whnf)
 refine⟨by(show 2+(l.map jQ).length<=_;simp;omega),by(show(2+(l.map jQ).length)*56<=_;simp;omega),?_⟩
 conv=>whnf
 have hL:(gP a host l).length=2+l.length:=by unfold gP;simp;omega
 refine ⟨Nat, fun k => ⟨[(6, .ptr 6 0), (7, .ptr 7 0), (21, .d (.slice 4 ((gP a host l).map jQ))), (22, .d (.int .i64 (((gP a host l).map jQ).length : Int))), (23, .d (.int .i64 k))],
     [(6, .box [.d (.str []), .nil 5]),(7, .box [.d (.str a), .own 200]),(200, .row 74 5 ((((gP a host l).take k).map sgn).map aw))]⟩,fun k=>k<=(gP a host l).length,fun k=>(gP a host l).length-k,
  ⟨0,Nat.zero_le _,((an.OP [19]).trans (an.rP 7 1 200 5 [.d (.str a), .nil 5] 74 5 (by kernel_rfl) rfl (by kernel_rfl) (by decide))).trans (an.keep ⟨⟨rfl,rfl⟩,⟨rfl,rfl⟩,⟨by kernel_rfl,rfl⟩,⟨by kernel_rfl,rfl⟩,⟨rfl,rfl⟩,trivial⟩ ⟨⟨rfl,rfl⟩,⟨rfl,rfl⟩,⟨rfl,rfl⟩,trivial⟩)⟩,fun k hk=>?_⟩
 dsimp only at hk ⊢
 conv=>whnf
 refine ae (fun h1=>?_) (fun h1=>?_) <;> (rw[h1];conv=>whnf)
 . have hlt:k<(gP a host l).length:=by
    have:(k:Int)<(((gP a host l).map jQ).length:Int):=of_decide_eq_true h1;rw[ao]at this;omega
   obtain⟨s,hs⟩:∃s,(gP a host l)[k]? =some s:=⟨_,ai hlt⟩
   refine⟨aH k,jQ s,aU hs,?_⟩
   conv=>whnf
   have htl:((gP a host l).take k).length=k:=by rw[List.length_take];omega
   refine⟨by(show((((gP a host l).take k).map sgn).map aw).length+1<=_;simp;omega),by(show(((((gP a host l).take k).map sgn).map aw).length+1)*80<=_;simp;omega),?_⟩
   conv=>whnf
   refine⟨k+1,hlt,by(show(gP a host l).length-(k+1)<(gP a host l).length-k;omega),an.keep ⟨⟨rfl,rfl⟩,⟨rfl,rfl⟩,⟨rfl,rfl⟩,⟨rfl,rfl⟩,⟨au (by omega),rfl⟩,trivial⟩ ⟨⟨rfl,rfl⟩,⟨rfl,rfl⟩,⟨?_,rfl⟩,trivial⟩⟩;rw[bt hs,List.map_append,List.map_append];rfl
 . obtain rfl:k=(gP a host l).length:=by
    have:¬(k:Int)<(((gP a host l).map jQ).length:Int):=of_decide_eq_false h1;rw[ao]at this;omega
   rw[List.take_length];exact af rfl rfl
set_option maxHeartbeats 4000000 in
theorem iI:NQ.Fn cx 68 [] (.agg ((cv exL).map .d)) []:=by
 show NQ.Fn Kk _ _ _ _
 have t1:=nQ [120] 2 [104,46,121];have t2:=nQ [121] 2 [104,46,120];have t3:=nQ [108,46,120] 3 [109,46,120];have t4:=nQ [109,46,120] 3 [108,46,120];have z1:=ui [46] [97] [uN [120] 2 [104,46,121],uN [121] 2 [104,46,120]] (by decide);have z2:=ui [120] [104,46,121] [uN [108,46,120] 3 [109,46,120],uN [109,46,120] 3 [108,46,120]] (by decide);have z3:=ui [121] [104,46,120] [] (by decide);refine cR (fun | 3=>[66666] | _=>[]) OV Na Tryz.func68 (by kernel_rfl) rfl (ah rfl) ?_
 conv=>whnf
 (refine⟨_,_,t1,?_⟩;conv=>whnf)
 (refine⟨_,_,t2,?_⟩;conv=>whnf)
 (refine⟨_,_,z1,?_⟩;conv=>whnf)
 (refine⟨_,_,t3,?_⟩;conv=>whnf)
 (refine⟨_,_,t4,?_⟩;conv=>whnf)
 (refine⟨_,_,z2,?_⟩;conv=>whnf)
 (refine⟨(by kernel_rfl:gV _=true),?_⟩;conv=>whnf)
 repeat' (first
  | (refine⟨_,_,z3,?_⟩;conv=>whnf)
  | (exact af rfl rfl)
  | (refine⟨by kernel_rfl,?_⟩;conv=>whnf)
  | (refine⟨?_,?_⟩ <;> (conv=>whnf))
  | fail)
theorem tQ(a b:List Bs)(ha:a.length<=100000)(hb:b.length<=100000):NQ.Fn cx 70 [.slice 1 (a.map aA), .slice 1 (b.map aA)] (.d (.bool (nR a b))) []:=by
 refine aO bf mixed Tryz.func70 (by kernel_rfl) rfl (ah rfl) ?_;conv=>whnf
 (refine⟨_,_,LL a b ha hb,?_⟩;conv=>whnf)
 exact af rfl rfl
set_option maxHeartbeats 2000000 in
theorem pE:NQ.Fn cx 26 [] (.d (.bool true)) []:=by
 show NQ.Fn Kl _ _ _ _
 have a1:=y7 exL [108,46,120] oH (by decide);rw[H0]at a1;have a2:=y7 exL [120] oH (by decide);rw[Ku]at a2;have n1:=tD exL [120] oH;rw[H3]at n1;have z1:=Ai exL oH;rw[H4]at z1;have l1:=IE exL [120] oH;rw[H2]at l1;have n2:=tD exL [122] oH;rw[NT]at n2;have z2:=Ai exN MH;rw[H5]at z2;have s1:=tQ [[108,46,120],[109,46,120]] [[108,46,120],[109,46,120]] (by decide) (by decide);rw[show nR [[108,46,120],[109,46,120]] [[108,46,120],[109,46,120]]=true by decide]at s1;have s2:=tQ [[121]] [[121]] (by decide) (by decide);rw[show nR [[121]] [[121]]=true by decide]at s2
 have s3:=tQ [[120],[121]] [[120],[121]] (by decide) (by decide);rw[show nR [[120],[121]] [[120],[121]]=true by decide]at s3;refine cR (fun _=>[]) OW Nb Tryz.func26 (by kernel_rfl) rfl (ah rfl) ?_
 conv=>whnf
 (refine⟨_,_,iI,?_⟩;conv=>whnf)
 (refine⟨_,_,a1,?_⟩;conv=>whnf)
 (refine⟨_,_,iI,?_⟩;conv=>whnf)
 (refine⟨_,_,a2,?_⟩;conv=>whnf)
 (refine⟨_,_,iI,?_⟩;conv=>whnf)
 (refine⟨_,_,n1,?_⟩;conv=>whnf)
 (refine⟨_,_,iI,?_⟩;conv=>whnf)
 (refine⟨_,_,z1,?_⟩;conv=>whnf)
 (refine⟨_,_,iI,?_⟩;conv=>whnf)
 (refine⟨_,_,l1,?_⟩;conv=>whnf)
 (refine⟨_,_,iI,?_⟩;conv=>whnf)
 (refine⟨_,_,n2,?_⟩;conv=>whnf)
 (refine⟨_,_,z2,?_⟩;conv=>whnf)
 (refine⟨_,_,s1,?_⟩;conv=>whnf)
 (refine⟨_,_,s2,?_⟩;conv=>whnf)
 (refine⟨_,_,s3,?_⟩;conv=>whnf)
 (refine⟨_,_,s3,?_⟩;conv=>whnf)
 exact af rfl rfl
theorem Ed(w:bJ):NQ.Fn cx 27 [.agg (cv w)] (.d (.bool (pA w&&cF w))) []:=by
 refine aO bf mixed Tryz.func27 (by kernel_rfl) rfl (ah rfl) ?_;conv=>whnf
 (refine⟨_,_,H6 w,?_⟩;conv=>whnf)
 cases hf:pA w with
 | false =>
  conv=>whnf
  exact af rfl rfl
 | true =>
  conv=>whnf
  (refine⟨_,_,GP w (zh hf).1,?_⟩;conv=>whnf)
  exact af rfl rfl
end Go.Proofs.YtjapjahfllomkaaGreatDoor
namespace NP
open NQ Go
theorem LQ{w:bJ}(h:(pA w&&cF w)=true):kR w/\cF w=true/\w.zones.length<=12/\w.hosts.length<=70:=by
 rw[aP]at h;obtain⟨h1,h2,h3⟩:=zh h.1;exact⟨h1,h.2,h3,h2⟩
end NP
namespace Go.Proofs.YtjapjahfllomkaaGreatDoor
open NQ Go NP Go.RowKit
end Go.Proofs.YtjapjahfllomkaaGreatDoor
namespace NP
open NQ Go
theorem Gc(zs:List ag)(a:Ans)(l:List Bs)(n:Bs):eG zs a (l++[n])=eG zs a l++(if eo a n=true then[]else match ff zs n with | some h=>[h] | none=>[]):=by
 unfold eG;rw[List.filterMap_append]
 congr 1
 by_cases h:eo a n=true
 . simp[List.filterMap_cons,h]
 . cases hh:ff zs n <;> simp[List.filterMap_cons,h,hh]
theorem Dk(l r:List Bs)(x:Bs):cY (l++[x]) r=sA (cY l r) x:=by unfold cY;rw[List.foldl_append];rfl
end NP
namespace Go.Proofs.YtjapjahfllomkaaGreatDoor
open NQ Go NP Go.RowKit
set_option maxHeartbeats 2000000 in
theorem IL(w:bJ)(l M:List Bs)(hl:l.length<=1000)(hlen:M.length=l.length)(hM:∀x∈l,M.contains x=true)(hr:l.Pairwise fun a b=>aR a b= -1)(hv:∀x∈l,aj x=true)(st:St)
 (hs:an cx st ⟨[(5, .d (.bool true)),(6, .d (.slice 1 (l.map aA))),(12, .omap 48)],[(48, .smap (eZ M))]⟩) :
 vc cx Tryz.f10.ntmps (fun | 19=>[55555] | _=>[]) (np 10 ((Tryz.f10.body).getD .skip)) (fnQ cx Tryz.f10.results.toList (.d (.bool true)) []) st:=by
 conv=>whnf
 refine⟨_,hs,?_⟩
 conv=>whnf
 refine⟨Nat,fun k=>⟨[(5, .d (.bool true)),(6, .d (.slice 1 (l.map aA))),(12, .omap 48),(72, .d (.slice 1 (l.map aA))),(73, .d (.int .i64 ((l.map aA).length:Int))),(74, .d (.int .i64 k))],[(48, .smap (eZ M))]⟩,
  fun k=>k<=l.length,fun k=>l.length-k,⟨0,Nat.zero_le _,an.keep ⟨⟨rfl,rfl⟩,⟨rfl,rfl⟩,⟨rfl,rfl⟩,⟨rfl,rfl⟩,⟨rfl,rfl⟩,⟨rfl,rfl⟩,trivial⟩ ⟨⟨rfl,rfl⟩,trivial⟩⟩,fun k hk=>?_⟩
 dsimp only at hk ⊢
 conv=>whnf
 refine ae (fun h1=>?_) (fun h1=>?_) <;> (rw[h1];conv=>whnf)
 case refine_2 =>
  have:((l.map aA).length:Int)=((eZ M).length:Int):=by unfold eZ;rw[ao,ao,hlen]
  refine af rfl ?_;show AV.d (.bool (((l.map aA).length:Int)==((eZ M).length:Int)))=_
  rw[this];simp
 have hlt:k<l.length:=by simpa using h1
 obtain⟨z,hz⟩:∃z,l[k]? =some z:=⟨_,ai hlt⟩
 have hzm:=aq hz;have again:an cx ⟨[(5, .d (.bool true)),(6, .d (.slice 1 (l.map aA))),(12, .omap 48),(72, .d (.slice 1 (l.map aA))),(73, .d (.int .i64 ((l.map aA).length:Int))),(74, .d (.int .i64 (k+1:Nat)))],[(48, .smap (eZ M))]⟩
  ⟨[(5, .d (.bool true)),(6, .d (.slice 1 (l.map aA))),(12, .omap 48),(72, .d (.slice 1 (l.map aA))),(73, .d (.int .i64 ((l.map aA).length:Int))),(74, .d (.int .i64 (k+1:Nat)))],[(48, .smap (eZ M))]⟩:=an.refl _
 refine⟨aH k,aA z,aU hz,?_⟩
 conv=>whnf
 rw[mq,hM z hzm]
 conv=>whnf
 refine ae (fun h2=>?_) (fun h2=>?_) <;> (rw[h2];conv=>whnf)
 . have hk0:0<k:=by have:=of_decide_eq_true h2;omega
   obtain⟨p,hp⟩:∃p,l[k-1]? =some p:=⟨_,ai (by omega)⟩
   have hw:IntKind.i64.wrap ((k:Int)-1)=((k-1:Nat):Int):=by rw[wrap_i64 (by omega) (by omega)];omega
   rw[hw];refine⟨aH _,aA p,aU hp,?_⟩
   conv=>whnf
   have hpz:aR p z= -1:=by
    rw[List.pairwise_iff_getElem]at hr;obtain⟨_,e1⟩:=ar.1 hp;obtain⟨_,e2⟩:=ar.1 hz;rw[<- e1, <- e2];exact hr (k-1) k (by omega) hlt (by omega)
   have fO:=sy p z (bI (hv p (aq hp))) (bI (hv z hzm));rw[hpz]at fO
   (refine⟨_,_,fO,?_⟩;conv=>whnf)
   exact⟨k+1,hlt,by(show l.length-(k+1)<l.length-k;omega),an.keep ⟨⟨rfl,rfl⟩,⟨rfl,rfl⟩,⟨rfl,rfl⟩,⟨rfl,rfl⟩,⟨rfl,rfl⟩,⟨au (by omega),rfl⟩,trivial⟩ ⟨⟨rfl,rfl⟩,trivial⟩⟩
 . exact⟨k+1,hlt,by(show l.length-(k+1)<l.length-k;omega),an.keep ⟨⟨rfl,rfl⟩,⟨rfl,rfl⟩,⟨rfl,rfl⟩,⟨rfl,rfl⟩,⟨rfl,rfl⟩,⟨au (by omega),rfl⟩,trivial⟩ ⟨⟨rfl,rfl⟩,trivial⟩⟩
set_option maxHeartbeats 2000000 in
theorem Ar(w:bJ)(a:Bs):NQ.Fn cx 10 [.agg (cv w), .str a] (.d (.bool true)) []:=by
 have fU:=Ed w;cases hu:(pA w&&cF w)with
 | false =>
  rw[hu]at fU;refine aO bf mixed Tryz.func10 (by kernel_rfl) rfl (ah rfl) ?_;conv=>whnf
  (refine⟨_,_,pE,?_⟩;conv=>whnf)
  (refine⟨_,_,fU,?_⟩;conv=>whnf)
  exact af rfl rfl
 | true =>
 rw[hu]at fU;obtain⟨hF,hv,hzl,_⟩:=LQ hu;have hg:=xo hF hv;have fN:=tD w a hF;by_cases h0:dS w a=0
 case neg =>
  have e:mg w a=([],dS w a):=by unfold mg;rw[if_neg h0]
  rw[e]at fN;have he:(dS w a != 0)=true:=by simpa using h0
  generalize dS w a=x at *
  refine aO bf mixed Tryz.func10 (by kernel_rfl) rfl (ah rfl) ?_;conv=>whnf
  (refine⟨_,_,pE,?_⟩;conv=>whnf)
  (refine⟨_,_,fU,?_⟩;conv=>whnf)
  (refine⟨_,_,fN,?_⟩;conv=>whnf)
  rw[he]
  conv=>whnf
  exact af rfl rfl
 have e:mg w a=(bq w.zones a,0):=by unfold mg;rw[if_pos h0]
 rw[e]at fN;obtain⟨_,hav,_⟩:=l7 h0;have hal:=lg w.zones;have hnl:(bq w.zones a).length<=1000:=by
  have:=zF (qi w.zones a) (b:=aV w.zones) fun x hx=>mf.2 ((iO _ _).1 (tC hg hav x hx))
  omega
 have hnv:∀x∈bq w.zones a,aj x=true:=fun x hx=>nI hg (tC hg hav x hx)
 have hrise:=vq w.zones a;have fD:=HH w a hg hav (by omega);have hend:=fun M=>IL w (bq w.zones a) M hnl
 cases hd:cK w.zones a with
 | none =>
  have hn0:bq w.zones a=[]:=by unfold bq;rw[hd]
  rw[hd]at fD;rw[hn0]at fN hend;refine cR (fun | 19=>[55555] | _=>[]) bf mixed Tryz.func10 (by kernel_rfl) rfl (ah rfl) ?_
  conv=>whnf
  (refine⟨_,_,pE,?_⟩;conv=>whnf)
  (refine⟨_,_,fU,?_⟩;conv=>whnf)
  (refine⟨_,_,fN,?_⟩;conv=>whnf)
  (refine⟨_,_,fD,?_⟩;conv=>whnf)
  refine⟨Unit,fun _=>⟨[(5, .d (.bool true)),(6, .d (.slice 1 [])),(12, .omap 48),(50, .d (.int .i64 0)),(51, .d (.int .i64 0))],[(48, .smap (eZ []))]⟩,fun _=>True,fun _=>0,⟨(),trivial,an.keep ⟨⟨rfl,rfl⟩,⟨rfl,rfl⟩,⟨rfl,rfl⟩,⟨rfl,rfl⟩,⟨rfl,rfl⟩,trivial⟩ ⟨⟨rfl,rfl⟩,trivial⟩⟩,fun _ _=>?_⟩
  conv=>whnf
  exact hend [] rfl (fun x hx=>by cases hx) List.Pairwise.nil (fun x hx=>by cases hx) _ (an.keep ⟨⟨rfl,rfl⟩,⟨rfl,rfl⟩,⟨rfl,rfl⟩,trivial⟩ ⟨⟨rfl,rfl⟩,trivial⟩)
 | some p =>
  rw[hd]at fD;obtain⟨s0,R,hs0,hh0,hhv,hhl⟩:=oW hg hav hd;obtain⟨m1,m2⟩:=M8 hd;have hsl:p.2.sets.length<=100000:=by
   obtain⟨x,hx,hpa,hu,_⟩:=C7 hg (xM hav) p (by
    unfold cK at hd;split at hd
    . cases hd
    . exact List.mem_of_find?_eq_some hd)
   rw[hpa];have:=Ek hu.few ⟨a,2⟩;omega
  have fS:=DZ p.2 s0 R hs0 (by rw[hh0,ao]at hhl;omega);rw[<- hh0]at fS;refine cR (fun | 19=>[55555] | _=>[]) bf mixed Tryz.func10 (by kernel_rfl) rfl (ah rfl) ?_
  conv=>whnf
  (refine⟨_,_,pE,?_⟩;conv=>whnf)
  (refine⟨_,_,fU,?_⟩;conv=>whnf)
  (refine⟨_,_,fN,?_⟩;conv=>whnf)
  (refine⟨_,_,fD,?_⟩;conv=>whnf)
  (refine⟨_,_,fS,?_⟩;conv=>whnf)
  refine⟨Nat,fun k=>⟨[(2, .ptr 2 0),(5, .d (.bool true)),(6, .d (.slice 1 ((bq w.zones a).map aA))),(8, .ptr 8 0),(12, .omap 48),(49, .d (.slice 1 ((cE p.2).map aA))),(50, .d (.int .i64 (((cE p.2).map aA).length:Int))),(51, .d (.int .i64 k))],
   [(2, .box ((cv w).map .d)),(8, .box ((dw p.2).map .d)),(48, .smap (eZ (cY (eG w.zones p.2 ((cE p.2).take k)) [])))]⟩,fun k=>k<=(cE p.2).length,fun k=>(cE p.2).length-k,
   ⟨0,Nat.zero_le _,an.keep ⟨⟨rfl,rfl⟩,⟨rfl,rfl⟩,⟨rfl,rfl⟩,⟨rfl,rfl⟩,⟨rfl,rfl⟩,⟨rfl,rfl⟩,⟨rfl,rfl⟩,⟨rfl,rfl⟩,trivial⟩ ⟨⟨rfl,rfl⟩,⟨rfl,rfl⟩,⟨rfl,rfl⟩,trivial⟩⟩,fun k hk=>?_⟩
  dsimp only at hk ⊢
  conv=>whnf
  refine ae (fun h1=>?_) (fun h1=>?_) <;> (rw[h1];conv=>whnf)
  . have hlt:k<(cE p.2).length:=by simpa using h1
    obtain⟨n,hn⟩:∃n,(cE p.2)[k]? =some n:=⟨_,ai hlt⟩
    have hnv:=hhv n (aq hn);have fH:=KN w n hF;rw[hv,FW hv hnv]at fH;have fG:=KJ p.2 n hsl;have snoc:=Gc w.zones p.2 ((cE p.2).take k) n;rw[<- bt hn]at snoc;refine⟨aH k,aA n,aU hn,?_⟩
    conv=>whnf
    (refine⟨_,_,fH,?_⟩;conv=>whnf)
    (refine⟨_,_,fG,?_⟩;conv=>whnf)
    cases hgl:eo p.2 n with
    | true =>
     rw[if_pos hgl,List.append_nil]at snoc
     conv=>whnf
     exact⟨k+1,hlt,by(show(cE p.2).length-(k+1)<(cE p.2).length-k;omega),an.keep ⟨⟨rfl,rfl⟩,⟨rfl,rfl⟩,⟨rfl,rfl⟩,⟨rfl,rfl⟩,⟨rfl,rfl⟩,⟨rfl,rfl⟩,⟨rfl,rfl⟩,⟨au (by omega),rfl⟩,trivial⟩ ⟨⟨rfl,rfl⟩,⟨rfl,rfl⟩,⟨by rw[snoc];rfl,rfl⟩,trivial⟩⟩
    | false =>
     rw[if_neg (by rw[hgl];simp)]at snoc;cases hh:ff w.zones n with
     | none =>
      rw[hh]at snoc;dsimp only at snoc;rw[List.append_nil]at snoc
      conv=>whnf
      exact⟨k+1,hlt,by(show(cE p.2).length-(k+1)<(cE p.2).length-k;omega),an.keep ⟨⟨rfl,rfl⟩,⟨rfl,rfl⟩,⟨rfl,rfl⟩,⟨rfl,rfl⟩,⟨rfl,rfl⟩,⟨rfl,rfl⟩,⟨rfl,rfl⟩,⟨au (by omega),rfl⟩,trivial⟩ ⟨⟨rfl,rfl⟩,⟨rfl,rfl⟩,⟨by rw[snoc];rfl,rfl⟩,trivial⟩⟩
     | some h =>
      rw[hh]at snoc;dsimp only at snoc
      conv=>whnf
      exact⟨k+1,hlt,by(show(cE p.2).length-(k+1)<(cE p.2).length-k;omega),an.keep ⟨⟨rfl,rfl⟩,⟨rfl,rfl⟩,⟨rfl,rfl⟩,⟨rfl,rfl⟩,⟨rfl,rfl⟩,⟨rfl,rfl⟩,⟨rfl,rfl⟩,⟨au (by omega),rfl⟩,trivial⟩ ⟨⟨rfl,rfl⟩,⟨rfl,rfl⟩,⟨by rw[snoc,Dk, <- Ja];rfl,rfl⟩,trivial⟩⟩
  . obtain rfl:k=(cE p.2).length:=by simp at h1;omega
    rw[List.take_length];exact hend _ m1 m2 hrise hnv _ (an.keep ⟨⟨rfl,rfl⟩,⟨rfl,rfl⟩,⟨rfl,rfl⟩,trivial⟩ ⟨⟨rfl,rfl⟩,trivial⟩)
end Go.Proofs.YtjapjahfllomkaaGreatDoor
