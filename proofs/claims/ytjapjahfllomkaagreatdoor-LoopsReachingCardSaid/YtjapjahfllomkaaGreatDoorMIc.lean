/-
  Texts of the proof, merged in build order.
-/
import Derived.Test.YtjapjahfllomkaaGreatDoorAbM
import Derived.Test.YtjapjahfllomkaaGreatDoorIbM
import Derived.Test.YtjapjahfllomkaaGreatDoorMIp
import Derived.Test.YtjapjahfllomkaaGreatDoorMQt
import Derived.Test.YtjapjahfllomkaaGreatDoorMGk
import Derived.Test.YtjapjahfllomkaaGreatDoorMVa
set_option linter.all false
set_option maxRecDepth 100000
namespace NP
open NQ Go
def xP(zs:List ag)(i:Nat):D:=match zs[i]? with | some p=> .agg [.int .i64 (fb p.zone).1, .int .i64 p.host] | none=> .agg [.int .i64 0, .int .i64 0]
def nC(zs:List ag)(i:Nat):D:=match zs[i]? with | some p=> .agg (bq p.zone) | none=> .agg (bq ⟨[],[]⟩)
theorem Cs{zs:List ag}{i:Nat}{p:ag}(h:zs[i]? =some p):xP zs i= .agg [.int .i64 (fb p.zone).1, .int .i64 p.host]:=by unfold xP;rw[h]
theorem C8{zs:List ag}{i:Nat}{p:ag}(h:zs[i]? =some p):nC zs i= .agg (bq p.zone):=by unfold nC;rw[h]
def C9(zs:List ag):List (List D×D):=(iT (nC zs) (dw zs)).map iH
def db(zs:List ag):List D:=[.kmap (C9 zs), .slice 1 ((aw zs).map au)]
theorem oa(zs:List ag)(a:Bs):iD (.str a) (C9 zs)=some ((bU zs a).map fun x=> .agg (bq x.2.zone)):=by
 unfold C9;rw[Fb,pW];cases h:bU zs a with
 | none=>rfl
 | some x=>simp[C8 (rr zs a x h)]
end NP
namespace Go.Proofs.YtjapjahfllomkaaGreatDoor
open NQ Go NP Go.RowKit
set_option maxHeartbeats 1000000 in
theorem Cc(w:bX)(hz:∀p∈w.zones,an p.zone.apex=true)(hl:w.zones.length<=100000):NQ.Fn cx 72 [.agg (bY w)] (.agg ((db w.zones).map .d)) []:=by
 refine df (fun | 12=>[12] | _=>[]) bf mixed Tryz.func72 (by kernel_rfl) rfl (ai rfl) ?_;have hvk:∀p∈iT (nC w.zones) (dw w.zones),an p.1=true:=fun p hp=>by
  obtain⟨y,hy,rfl⟩:=List.mem_map.1 hp;obtain⟨q,hq,ha⟩:=tw.1 (show y.1∈dK (dw w.zones)from List.mem_map.2 ⟨y,hy,rfl⟩);show an y.1=true
  rw[<- ha];exact hz q hq
 conv=>whnf
 refine ⟨Nat × List (Bs × Nat), fun x => ⟨[(2, .ptr 2 0), (3, .omap 11), (4, .ptr 4 0), (15, .d (.slice 3 (w.zones.map cm))), (16, .d (.int .i64 ((w.zones.map cm).length : Int))), (17, .d (.int .i64 x.1))],
     [(2, .box [.d .nmap, .nil 1]),(11, .smap (iT (xP w.zones) x.2)),(4, .box [.omap 12, .nil 1]),(12, .smap (iT (nC w.zones) x.2))]⟩,
  fun x=>x.1<=w.zones.length/\jv w.zones x.2/\iF w.zones x.1 (w.zones.drop x.1) x.2=dw w.zones,fun x=>w.zones.length-x.1,
  ⟨(0,[]),⟨Nat.zero_le _,(fun a j h=>by cases h),rfl⟩,aj.keep ⟨⟨rfl,rfl⟩,⟨rfl,rfl⟩,⟨rfl,rfl⟩,⟨rfl,rfl⟩,⟨rfl,rfl⟩,⟨rfl,rfl⟩,trivial⟩ ⟨⟨rfl,rfl⟩,⟨rfl,rfl⟩,⟨rfl,rfl⟩,⟨rfl,rfl⟩,trivial⟩⟩,fun⟨k,m⟩ ⟨hk,hok,hinv⟩=>?_⟩
 dsimp only at hk hok hinv ⊢
 conv=>whnf
 refine ae (fun h1=>?_) (fun h1=>?_) <;> (rw[h1];conv=>whnf)
 . have hlt:k<w.zones.length:=by simpa using h1
   obtain⟨x,hx⟩:∃x,w.zones[k]? =some x:=⟨_,ah hlt⟩
   rw[Js hx]at hinv;have again:∀m',(m' =if gr w.zones m x=true then fy x.zone.apex k m else m)->(k+1<=w.zones.length/\jv w.zones m' /\iF w.zones (k+1) (w.zones.drop (k+1)) m' =dw w.zones):=fun m' e=>by
    refine⟨hlt,?_,by rw[e];exact hinv⟩;rw[e];split
    . exact hok.put hx
    . exact hok
   have Lp:cM x.zone.apex (.agg [.int .i64 (fb x.zone).1, .int .i64 x.host]) (iT (xP w.zones) m)=iT (xP w.zones) (fy x.zone.apex k m):=by rw[<- Cs hx,y2]
   have rV:cM x.zone.apex (.agg (bq x.zone)) (iT (nC w.zones) m)=iT (nC w.zones) (fy x.zone.apex k m):=by rw[<- C8 hx,y2]
   refine⟨az k,cm x,aT hx,?_⟩
   conv=>whnf
   (refine⟨_,_,Jf x.zone,?_⟩;conv=>whnf)
   rw[CN];cases hf:er x.zone.apex m with
   | none =>
    have ht:gr w.zones m x=true:=by unfold gr;rw[hf]
    conv=>whnf
    refine⟨(k+1,fy x.zone.apex k m),again _ (by rw[if_pos ht]),by(show w.zones.length-(k+1)<w.zones.length-k;omega),aj.keep ⟨⟨rfl,rfl⟩,⟨rfl,rfl⟩,⟨rfl,rfl⟩,⟨rfl,rfl⟩,⟨rfl,rfl⟩,⟨aq (by omega),rfl⟩,trivial⟩ ⟨⟨rfl,rfl⟩,⟨congrArg (fun m=>some (Blk.smap m)) Lp,rfl⟩,⟨rfl,rfl⟩,⟨congrArg (fun m=>some (Blk.smap m)) rV,rfl⟩,trivial⟩⟩
   | some j =>
    obtain⟨p,hp,hpa⟩:=hok _ j hf;have ht:gr w.zones m x=du x p:=by unfold gr;rw[hf];dsimp only;rw[hp]
    simp only[Option.map_some,Cs hp]
    conv=>whnf
    have yes:du x p=true->_:=fun h=>again (fy x.zone.apex k m) (by rw[if_pos (ht.trans h)])
    have no:du x p=false->_:=fun h=>again m (by rw[if_neg (by rw[ht.trans h];simp)])
    repeat' (first
     | (refine ae (fun h=>?_) (fun h=>?_) <;> (rw[h];conv=>whnf))
     | fail)
    all_goals first
     | (refine⟨(k+1,fy x.zone.apex k m),yes (by unfold du;simp_all;done),by(show w.zones.length-(k+1)<w.zones.length-k;omega),aj.keep ⟨⟨rfl,rfl⟩,⟨rfl,rfl⟩,⟨rfl,rfl⟩,⟨rfl,rfl⟩,⟨rfl,rfl⟩,⟨aq (by omega),rfl⟩,trivial⟩ ⟨⟨rfl,rfl⟩,⟨congrArg (fun m=>some (Blk.smap m)) Lp,rfl⟩,⟨rfl,rfl⟩,⟨congrArg (fun m=>some (Blk.smap m)) rV,rfl⟩,trivial⟩⟩;done)
     | (refine⟨(k+1,m),no (by unfold du;simp_all;done),by(show w.zones.length-(k+1)<w.zones.length-k;omega),aj.keep ⟨⟨rfl,rfl⟩,⟨rfl,rfl⟩,⟨rfl,rfl⟩,⟨rfl,rfl⟩,⟨rfl,rfl⟩,⟨aq (by omega),rfl⟩,trivial⟩ ⟨⟨rfl,rfl⟩,⟨rfl,rfl⟩,⟨rfl,rfl⟩,⟨rfl,rfl⟩,trivial⟩⟩;done)
 . obtain rfl:k=w.zones.length:=by simp at h1;omega
   rw[List.drop_length]at hinv;obtain rfl:m=dw w.zones:=hinv
   (refine⟨_,_,M0 (iT (nC w.zones) (dw w.zones)),?_⟩;conv=>whnf)
   have hkeys:(iT (nC w.zones) (dw w.zones)).map (·.1)=dK (dw w.zones):=by unfold iT dK;rw[List.map_map];rfl
   (refine⟨_,_,Az (iT (nC w.zones) (dw w.zones)) (by rw[hkeys];exact mE _) hvk (by unfold iT;rw[ao];have:=x7 w.zones;omega),?_⟩;conv=>whnf)
   rw[hkeys];exact af rfl rfl
end Go.Proofs.YtjapjahfllomkaaGreatDoor
namespace NP
open NQ Go
theorem JZ:(back [46]).length=0:=by decide
theorem Ak(l:List (Bs×Ans))(x:List D)(h:x∈l.map uj):x.length=2:=by
 obtain⟨p,_,rfl⟩:=List.mem_map.1 h;rfl
theorem zU(zs:List ag)(q:bg):gL zs q=match (iI zs q).find? (fun p=>p.2.kind != 4)with | some p=>(p.2,true) | none=>(lJ,false):=Fe zs q _ _
end NP
namespace Go.Proofs.YtjapjahfllomkaaGreatDoor
open NQ Go NP Go.RowKit
theorem C0(zs:List ag)(q:bg)(hg:dB zs)(hq:b9 q=true):NO cx 254 [.ptr (db zs), .ptr (cU q)] ((iI zs q).map uj):=by
 refine DB (fun | 4=>[77777] | _=>[]) bf mixed Tryz.func254 (by kernel_rfl) rfl rfl (ai rfl) ?_
 conv=>whnf
 refine⟨rfl,?_⟩
 conv=>whnf
 refine⟨Nat×Nat×Bs,fun x=>((x.1,true),⟨[(1, .d (.ptr (db zs))),(2, .d (.ptr (cU q))),(4, .d (.str x.2.2))],[]⟩),
  fun x=>x.1<=(iI zs q).length/\ju zs q x.2.1 x.2.2=(iI zs q).drop x.1/\aM q.name x.2.2=true/\(back q.name).length+2<=x.2.1+(back x.2.2).length,fun x=>x.2.1,
  ⟨(0,(back q.name).length+2,[46]),⟨Nat.zero_le _,rfl,iW _,by rw[JZ];exact Nat.le_refl _⟩,rfl,aj.keep ⟨⟨rfl,rfl⟩,⟨rfl,rfl⟩,⟨rfl,rfl⟩,trivial⟩ trivial⟩,fun⟨k,f,a⟩ ⟨hk,hw,hu,hf⟩=>?_⟩
 dsimp only at hk hw hu hf ⊢
 conv=>whnf
 refine⟨rfl,?_⟩
 conv=>whnf
 refine⟨_,oa zs a,?_⟩;cases hc:bU zs a with
 | none =>
  rw[lR hc]at hw;have hk' :k=(iI zs q).length:=by
   have:=congrArg List.length hw;simp at this;omega
  repeat' (first | (refine⟨rfl,?_⟩;conv=>whnf) | fail)
  refine⟨trivial,fun _=>?_⟩;show k=((iI zs q).map uj).length
  rw[hk',ao]
 | some x =>
  obtain⟨f,rfl⟩:∃g,f=g+1:=⟨f-1,by
   have:=((dM _ _).1 hu).length_le;omega⟩
  rw[lS hc]at hw;have u:=qZ hg hq hu hc;have hget:(iI zs q)[k]? =some (a,(bH x.2.zone q).1):=by
   have:=congrArg (fun l:List (Bs×Ans)=>l[0]?) hw;simp only[List.getElem?_cons_zero,List.getElem?_drop,Nat.add_zero]at this;exact this.symm
  have hkl:=(av.1 hget).1;have hrest:(if ((bH x.2.zone q).1.kind != 4)=true then[]else ju zs q f (bH x.2.zone q).1.cut)=(iI zs q).drop (k+1):=by
   have:=congrArg List.tail hw;rw[List.tail_cons,List.tail_drop]at this;exact this
  repeat' (first | (refine⟨rfl,?_⟩;conv=>whnf) | (refine⟨_,_,wV x.2.zone q (by have:=(dG u.few).1;omega),?_⟩;conv=>whnf) | fail)
  refine⟨uj (a,(bH x.2.zone q).1),_,⟨by rw[aV,hget];rfl,rfl⟩,rfl,fun b=>?_⟩
  conv=>whnf
  cases b with
  | true =>
   repeat' (first | (refine⟨rfl,?_⟩;conv=>whnf) | (refine ae (fun h=>?_) (fun h=>?_) <;> (rw[h];conv=>whnf)) | fail)
   . refine⟨trivial,fun _=>?_⟩;rw[if_pos h]at hrest;have:=congrArg List.length hrest;simp at this;show k+1=((iI zs q).map uj).length
     rw[ao];omega
   . rw[if_neg (by rw[show((bH x.2.zone q).1.kind != 4)=false from h];simp)]at hrest;obtain⟨d1,d2,_⟩:=gQ u h;rw[(kG hc).2]at d2;exact⟨(k+1,f,(bH x.2.zone q).1.cut),⟨hkl,hrest,d1,by dsimp only;omega⟩,by(show f<f+1;omega),rfl,aj.keep ⟨⟨rfl,rfl⟩,⟨rfl,rfl⟩,⟨rfl,rfl⟩,trivial⟩ trivial⟩
  | false =>
   repeat' (first | (refine⟨rfl,?_⟩;conv=>whnf) | fail)
   exact⟨trivial,fun h=>by cases h⟩
theorem JG(zs:List ag)(q:bg):NQ.Fn cx 197 [.agg (db zs), .agg (cU q)] (.d (.fn 254 [] [.ptr (db zs), .ptr (cU q)])) []:=by
 refine aP bf mixed Tryz.func197 (by kernel_rfl) rfl (ai rfl) ?_;conv=>whnf
 exact af rfl rfl
end Go.Proofs.YtjapjahfllomkaaGreatDoor
namespace NQ
theorem qL{fx:List Nat}{h:List (Nat×Blk)}(e:fx.all (fun s=>(find h s).isSome)=true):∀s∈fx,live h s:=fun s hs=>aA.1 e s hs
theorem Hl{fx:List Nat}{h:List (Nat×Blk)}(e:fx.all (fun s=>Nat.ble 100000 s&&(match find h s with | some b=>xN b | none=>false))=true):∀s∈fx,100000<=s/\ ∃b,find h s=some b/\xN b=true:=fun s hs=>by
 have:=aA.1 e s hs;rw[aR]at this;refine⟨ai this.1,?_⟩;have h2:=this.2;split at h2
 . rename_i b e;exact⟨b,e,h2⟩
 . cases h2
end NQ
namespace NP
open NQ Go
theorem C5{zs:List ag}{q:bg}:∀(f:Nat) (a:Bs) (p:Bs×Ans),p∈ju zs q f a->(p.2.kind != 4)=true->(ju zs q f a).find? (fun p=>p.2.kind != 4)=some p
 | 0,a,p,hp,_=>by cases hp
 | f+1,a,p,hp,hk=>by
  cases h:bU zs a with
  | none=>rw[lR h]at hp;cases hp
  | some x =>
   rw[lS h]at hp ⊢;cases hx:((bH x.2.zone q).1.kind != 4)with
   | true =>
    rw[hx,if_pos rfl]at hp;rw[List.find?_cons_of_pos (p:=fun p:Bs×Ans=>p.2.kind != 4) hx,List.mem_singleton.1 hp]
   | false =>
    rw[hx,if_neg (by simp)]at hp;rw[List.find?_cons_of_neg (p:=fun p:Bs×Ans=>p.2.kind != 4) (by simp[hx]),if_neg (by simp)];rcases List.mem_cons.1 hp with rfl | hp
    . rw[hx]at hk;cases hk
    . exact C5 f _ p hp hk
theorem CZ{zs:List ag}{q:bg}(hg:dB zs)(hq:b9 q=true):∀(f:Nat) (a:Bs),aM q.name a=true-> ∀p∈ju zs q f a,(p.2.kind != 4)=false->(back a).length<(back p.2.cut).length
 | 0,a,_,p,hp,_=>by cases hp
 | f+1,a,hu,p,hp,hk=>by
  cases h:bU zs a with
  | none=>rw[lR h]at hp;cases hp
  | some x =>
   rw[lS h]at hp;have u:=qZ hg hq hu h;rcases List.mem_cons.1 hp with rfl | hp
   . obtain⟨_,d2,_⟩:=gQ u hk;rw[(kG h).2]at d2;exact d2
   . cases hx:((bH x.2.zone q).1.kind != 4)with
     | true=>rw[hx,if_pos rfl]at hp;cases hp
     | false =>
      rw[hx,if_neg (by simp)]at hp;obtain⟨d1,d2,_⟩:=gQ u hx;rw[(kG h).2]at d2;have:=CZ hg hq f _ d1 p hp hk;omega
theorem Ff{zs:List ag}{q:bg}(hg:dB zs)(hq:b9 q=true){c:Bs}:∀(f:Nat) (a:Bs),aM q.name a=true-> ∀p∈ju zs q f a,fY c p=true->(ju zs q f a).find? (fY c)=some p
 | 0,a,_,p,hp,_=>by cases hp
 | f+1,a,hu,p,hp,hk=>by
  cases h:bU zs a with
  | none=>rw[lR h]at hp;cases hp
  | some x =>
   rw[lS h]at hp ⊢;have u:=qZ hg hq hu h;cases hx:((bH x.2.zone q).1.kind != 4)with
   | true =>
    rw[hx,if_pos rfl]at hp;rw[List.mem_singleton.1 hp]at hk ⊢;rw[List.find?_cons_of_pos hk]
   | false =>
    rw[hx,if_neg (by simp)]at hp;rw[if_neg (by simp)];obtain⟨d1,d2,_⟩:=gQ u hx;rcases List.mem_cons.1 hp with rfl | hp
    . rw[List.find?_cons_of_pos hk]
    . have hk' :=hk;unfold fY at hk';simp only[aR,beq_iff_eq]at hk';have:=CZ hg hq f _ d1 p hp (by rw[hk'.1];rfl);rw[List.find?_cons_of_neg,Ff hg hq f _ d1 p hp hk];intro hc;unfold fY at hc;simp only[aR,beq_iff_eq]at hc;rw[hk'.2,hc.2]at this;omega
def qE:Option (Bs×Ans)->Bs×Ans×Bool
 | some p=>(p.1,p.2,true)
 | none=>([],lJ,false)
end NP
namespace Go.Proofs.YtjapjahfllomkaaGreatDoor
open NQ Go NP Go.RowKit
theorem FO(zs:List ag)(q:bg)(hg:dB zs)(hq:b9 q=true):NQ.Fn cx 127 [.agg (db zs), .agg (cU q)] (.tuple [.agg ((dq (gL zs q).1).map .d), .d (.bool (gL zs q).2)]) []:=by
 refine s9 (fun _=>[]) bf mixed Tryz.func127 (by kernel_rfl) rfl (ai rfl) ?_
 conv=>whnf
 (refine⟨_,_,JG zs q,?_⟩;conv=>whnf)
 refine⟨254,_,yF _,[(4, .ptr 100004 0),(5, .ptr 100005 0),(10, .d (.fn 254 [] [.ptr (db zs), .ptr (cU q)]))],
  Unit,(),fun _ _=>[(100004, .box [.d (.int .i64 0), .nil 5, .d (.str [])]),(100005, .box [.d (.bool false)])],[100004,100005],
  fun(k:Nat) _=> ∀j p,j<k->(iI zs q)[j]? =some p->(p.2.kind != 4)=false,
  (iJ.ren [4,5] (by kernel_rfl)).trans (aj.zero (aj.keep ⟨⟨(by kernel_rfl),(by kernel_rfl)⟩,⟨(by kernel_rfl),(by kernel_rfl)⟩,⟨(by kernel_rfl),(by kernel_rfl)⟩,trivial⟩ ⟨⟨(by kernel_rfl),(by kernel_rfl)⟩,⟨(by kernel_rfl),(by kernel_rfl)⟩,trivial⟩)),
  ⟨rfl,C0 zs q hg hq,fun k x k' hx=>Ak _ x (ar hx.1),rfl,rfl⟩,⟨ai rfl,Hl (by kernel_rfl),rfl,by kernel_rfl⟩,fun j p (h:j<0)=>by omega,fun k x k' _ ⟨hx,hkk⟩ hN=>?_,fun kf _ hkf hN=>?_⟩
 . obtain rfl:k' =k+1:=hkk;rw[aV]at hx;cases hp:(iI zs q)[k]? with
   | none=>rw[hp]at hx;cases hx
   | some p =>
    rw[hp]at hx;cases hx
    conv=>whnf
    refine ae (fun h1=>?_) (fun h1=>?_) <;> (rw[h1];conv=>whnf)
    . refine⟨[(100004, .box ((dq p.2).map .d)),(100005, .box [.d (.bool true)])],aj.keep trivial ⟨⟨(by kernel_rfl),(by kernel_rfl)⟩,⟨(by kernel_rfl),(by kernel_rfl)⟩,trivial⟩,qL (by kernel_rfl),af rfl ?_⟩;have e:gL zs q=(p.2,true):=by
       rw[zU];have:=C5 _ _ p (ar hp) h1;unfold iI;rw[this]
      rw[e];rfl
    . refine⟨(),⟨aj.keep trivial ⟨⟨(by kernel_rfl),(by kernel_rfl)⟩,⟨(by kernel_rfl),(by kernel_rfl)⟩,trivial⟩,qL (by kernel_rfl)⟩,fun j r hj hr=>?_⟩;rcases Nat.lt_succ_iff_lt_or_eq.1 hj with hj | rfl
      . exact hN j r hj hr
      . rw[hp]at hr;cases hr;exact h1
 . obtain rfl:kf=_:=hkf
   conv=>whnf
   refine af rfl ?_;have e:gL zs q=(lJ,false):=by
    rw[zU];have:(iI zs q).find? (fun p=>p.2.kind != 4)=none:=List.find?_eq_none.2 fun p hp=>by
     obtain⟨j,hj⟩:=cd hp;rw[hN j p (by rw[ao];exact(av.1 hj).1) hj];simp
    rw[this]
   rw[e];rfl
set_option maxHeartbeats 1000000 in
theorem zk(zs:List ag)(a:Bs)(hg:dB zs)(ha:an a=true) :
 NQ.Fn cx 136 [.agg (db zs), .str a] (.tuple [.d (.str (qE (cF zs a)).1), .agg ((dq (qE (cF zs a)).2.1).map .d), .d (.bool (qE (cF zs a)).2.2)]) []:=by
 refine s9 (fun | 7=>[55555,66666] | _=>[]) bf mixed Tryz.func136 (by kernel_rfl) rfl (ai rfl) ?_
 conv=>whnf
 refine ae (fun h0=>?_) (fun h0=>?_) <;> (rw[h0];conv=>whnf)
 . have e:cF zs a=none:=by unfold cF;rw[if_pos (by simpa using h0)]
   rw[e];exact af rfl rfl
 have hne:a ≠ [46]:=by simpa using h0
 have hd:cF zs a=(iI zs ⟨a,2⟩).find? (fY a):=by unfold cF;rw[if_neg hne]
 have hq:b9 ⟨a,2⟩=true:=xO ha
 (refine⟨_,_,JG zs ⟨a,2⟩,?_⟩;conv=>whnf)
 refine⟨254,_,yF _,[(3, .ptr 100003 0),(4, .ptr 100004 0),(5, .ptr 100005 0),(6, .ptr 100006 0),(15, .d (.fn 254 [] [.ptr (db zs), .ptr (cU ⟨a,2⟩)]))],
  Unit,(),fun _ _=>[(100003, .box [.d (.str a)]),(100004, .box [.d (.str [])]),(100005, .box [.d (.int .i64 0), .nil 5, .d (.str [])]),(100006, .box [.d (.bool false)])],[100003,100004,100005,100006],
  fun(k:Nat) _=> ∀j p,j<k->(iI zs ⟨a,2⟩)[j]? =some p->fY a p=false,
  (iJ.ren [3,4,5,6] (by kernel_rfl)).trans (aj.zero (aj.keep ⟨⟨(by kernel_rfl),(by kernel_rfl)⟩,⟨(by kernel_rfl),(by kernel_rfl)⟩,⟨(by kernel_rfl),(by kernel_rfl)⟩,⟨(by kernel_rfl),(by kernel_rfl)⟩,⟨(by kernel_rfl),(by kernel_rfl)⟩,trivial⟩ ⟨⟨(by kernel_rfl),(by kernel_rfl)⟩,⟨(by kernel_rfl),(by kernel_rfl)⟩,⟨(by kernel_rfl),(by kernel_rfl)⟩,⟨(by kernel_rfl),(by kernel_rfl)⟩,trivial⟩)),
  ⟨rfl,C0 zs _ hg hq,fun k x k' hx=>Ak _ x (ar hx.1),rfl,rfl⟩,⟨ai rfl,Hl (by kernel_rfl),rfl,by kernel_rfl⟩,fun j p (h:j<0)=>by omega,fun k x k' _ ⟨hx,hkk⟩ hN=>?_,fun kf _ hkf hN=>?_⟩
 . obtain rfl:k' =k+1:=hkk;rw[aV]at hx;cases hp:(iI zs ⟨a,2⟩)[k]? with
   | none=>rw[hp]at hx;cases hx
   | some p =>
    rw[hp]at hx;cases hx;have next:fY a p=false-> ∀j r,j<k+1->(iI zs ⟨a,2⟩)[j]? =some r->fY a r=false:=fun hc j r hj hr=>by
     rcases Nat.lt_succ_iff_lt_or_eq.1 hj with hj | rfl
     . exact hN j r hj hr
     . rw[hp]at hr;cases hr;exact hc
    have yes:fY a p=true->cF zs a=some p:=fun hc=>by
     rw[hd];unfold iI;exact Ff hg hq _ _ (iW _) p (ar hp) hc
    conv=>whnf
    refine ae (fun h1=>?_) (fun h1=>?_) <;> (rw[h1];conv=>whnf)
    case refine_2 =>
     exact⟨(),⟨aj.keep trivial ⟨⟨(by kernel_rfl),(by kernel_rfl)⟩,⟨(by kernel_rfl),(by kernel_rfl)⟩,⟨(by kernel_rfl),(by kernel_rfl)⟩,⟨(by kernel_rfl),(by kernel_rfl)⟩,trivial⟩,qL (by kernel_rfl)⟩,next (by unfold fY;rw[show(p.2.kind==4)=false from h1];rfl)⟩
    refine ae (fun h2=>?_) (fun h2=>?_) <;> (rw[h2];conv=>whnf)
    case refine_2 =>
     exact⟨(),⟨aj.keep trivial ⟨⟨(by kernel_rfl),(by kernel_rfl)⟩,⟨(by kernel_rfl),(by kernel_rfl)⟩,⟨(by kernel_rfl),(by kernel_rfl)⟩,⟨(by kernel_rfl),(by kernel_rfl)⟩,trivial⟩,qL (by kernel_rfl)⟩,next (by unfold fY;rw[show(p.2.cut==a)=false from h2];exact aD _)⟩
    refine⟨⟨[(3, .ptr 100003 0),(4, .ptr 100004 0),(5, .ptr 100005 0),(6, .ptr 100006 0),(7, .d (.str p.1)),(8, .ptr 8 0)],[(100003, .box [.d (.str a)]),(100004, .box [.d (.str [])]),(100005, .box [.d (.int .i64 0), .nil 5, .d (.str [])]),(100006, .box [.d (.bool false)]),(8, .box ((dq p.2).map .d))]⟩,
     aj.keep ⟨⟨(by kernel_rfl),(by kernel_rfl)⟩,⟨(by kernel_rfl),(by kernel_rfl)⟩,⟨(by kernel_rfl),(by kernel_rfl)⟩,⟨(by kernel_rfl),(by kernel_rfl)⟩,⟨(by kernel_rfl),(by kernel_rfl)⟩,⟨(by kernel_rfl),(by kernel_rfl)⟩,trivial⟩ ⟨⟨(by kernel_rfl),(by kernel_rfl)⟩,⟨(by kernel_rfl),(by kernel_rfl)⟩,⟨(by kernel_rfl),(by kernel_rfl)⟩,⟨(by kernel_rfl),(by kernel_rfl)⟩,⟨(by kernel_rfl),(by kernel_rfl)⟩,trivial⟩,?_⟩
    conv=>whnf
    (refine⟨(by kernel_rfl:ie _=true),?_⟩;conv=>whnf)
    have fin : ∀ st, aj cx st ⟨[], [(100003, .box [.d (.str a)]), (100004, .box [.d (.str p.1)]), (100005, .box ((dq p.2).map .d)), (100006, .box [.d (.bool true)])]⟩ -> ∃ hx, aj cx st ⟨[], hx⟩ /\ (∀ s ∈ [100003, 100004, 100005, 100006], live hx s) /\
        tP cx Tryz.f136.results.toList (.tuple [.d (.str (qE (cF zs a)).1), .agg ((dq (qE (cF zs a)).2.1).map .d), .d (.bool (qE (cF zs a)).2.2)]) [] ⟨[(3, .ptr 100003 0),(4, .ptr 100004 0),(5, .ptr 100005 0),(6, .ptr 100006 0),(15, .d (.fn 254 [] [.ptr (db zs), .ptr (cU ⟨a,2⟩)]))],hx⟩:=fun st hst=>by
     refine⟨_,hst,qL (by kernel_rfl),af rfl ?_⟩;rw[yes (by unfold fY;rw[show(p.2.kind==4)=true from h1,show(p.2.cut==a)=true from h2];rfl)];rfl
    repeat' (first
     | (exact fin _ (aj.keep trivial ⟨⟨(by kernel_rfl),(by kernel_rfl)⟩,⟨(by kernel_rfl),(by kernel_rfl)⟩,⟨(by kernel_rfl),(by kernel_rfl)⟩,⟨(by kernel_rfl),(by kernel_rfl)⟩,trivial⟩))
     | (refine⟨by kernel_rfl,?_⟩;conv=>whnf)
     | (refine⟨?_,?_⟩ <;> (conv=>whnf))
     | fail)
 . obtain rfl:kf=_:=hkf
   conv=>whnf
   refine af rfl ?_;have e:cF zs a=none:=by
    rw[hd];exact List.find?_eq_none.2 fun p hp=>by
     obtain⟨j,hj⟩:=cd hp;rw[hN j p (by rw[ao];exact(av.1 hj).1) hj];simp
   rw[e];rfl
theorem Bz(zs:List ag)(s:Bs)(hv:an s=true):NQ.Fn cx 138 [.agg (db zs), .str s] (.tuple [.d (.str ((eE zs s).getD [])), .d (.bool (eE zs s).isSome)]) []:=by
 refine aP bf mixed Tryz.func138 (by kernel_rfl) rfl (ai rfl) ?_;conv=>whnf
 refine⟨Bs,fun n=>⟨[(1, .d (.str n)),(2, .ptr 2 0)],[(2, .box ((db zs).map .d))]⟩,
  fun n=>an n=true/\rF zs ((bd n).length+1) n=eE zs s,fun n=>(bd n).length,
  ⟨s,⟨hv,rfl⟩,aj.keep ⟨⟨rfl,rfl⟩,⟨rfl,rfl⟩,trivial⟩ ⟨⟨rfl,rfl⟩,trivial⟩⟩,fun n ⟨hvn,hn⟩=>?_⟩
 dsimp only at hvn hn ⊢
 conv=>whnf
 refine⟨_,oa zs n,?_⟩;unfold rF at hn;cases hc:bU zs n with
 | some x =>
  have hn:some n=eE zs s:=by rw[if_pos (by rw[hc];rfl)]at hn;exact hn
  conv=>whnf
  refine af rfl ?_;rw[<- hn];rfl
 | none =>
  have hn:(if n=[46]then none else rF zs (bd n).length (cz n))=eE zs s:=by rw[if_neg (by rw[hc];simp)]at hn;exact hn
  conv=>whnf
  (refine⟨_,_,sC n,?_⟩;conv=>whnf)
  by_cases h46:n=[46]
  . rw[if_pos h46]at hn;have hp:dV n=([],4):=by unfold dV;rw[if_pos hvn,if_pos h46]
    rw[hp]
    conv=>whnf
    refine af rfl ?_;rw[<- hn];rfl
  . rw[if_neg h46]at hn;have hp:dV n=(cz n,0):=by unfold dV;rw[if_pos hvn,if_neg h46]
    rw[hp]
    conv=>whnf
    obtain⟨_,_,h3⟩:=kx hvn (iW n) h46;exact⟨cz n,⟨eV hvn,by rw[h3];exact hn⟩,by(show(bd (cz n)).length<(bd n).length;omega),aj.keep ⟨⟨rfl,rfl⟩,⟨rfl,rfl⟩,trivial⟩ ⟨⟨rfl,rfl⟩,trivial⟩⟩
end Go.Proofs.YtjapjahfllomkaaGreatDoor
namespace NP
open NQ Go
def jA(cut:Bs)(s:Signed):Bool:=(s.set.type==2)&&(s.set.name==cut)
def gp(cut:Bs)(l:List Signed):List Bs:=(l.filter (jA cut)).flatMap fun s=>s.set.data.map (·.text)
theorem vg(cut:Bs)(l:List Signed)(s:Signed):gp cut (l++[s])=gp cut l++(if jA cut s=true then s.set.data.map (·.text)else[]):=by
 unfold gp;rw[List.filter_append,List.flatMap_append];by_cases h:jA cut s=true
 . rw[if_pos h,List.filter_cons_of_pos h];simp
 . rw[if_neg h,List.filter_cons_of_neg h];simp
theorem xt(cut:Bs):∀l:List Signed,(∀s∈l,s.set.data.length<=100)->(gp cut l).length<=100*l.length
 | [],_=>by simp[gp]
 | s::t,h=>by
  have ih:=xt cut t fun x hx=>h x (aW _ hx)
  have hs:=h s (List.mem_cons_self ..);unfold gp at ih ⊢;by_cases e:jA cut s=true
  . rw[List.filter_cons_of_pos e,List.flatMap_cons];simp only[List.length_append,ao,List.length_cons];omega
  . rw[List.filter_cons_of_neg e];simp only[List.length_cons];omega
def iL(l:List Signed):List (Bs×D):=l.foldl (fun m s=>if (s.set.type==1)=true then cM s.set.name (.bool true) m else m) []
theorem xp(l:List Signed)(s:Signed):iL (l++[s])=if (s.set.type==1)=true then cM s.set.name (.bool true) (iL l)else iL l:=by unfold iL;rw[List.foldl_append];rfl
theorem BL(n:Bs):∀(l:List Signed) (m:List (Bs×D)),cJ n (l.foldl (fun m s=>if (s.set.type==1)=true then cM s.set.name (.bool true) m else m) m)=if (l.any fun s=>(s.set.type==1)&&(s.set.name==n))=true then some (.bool true)else cJ n m
 | [],m=>by simp
 | s::t,m=>by
  rw[List.foldl_cons,BL n t,List.any_cons];cases ht:t.any fun s=>(s.set.type==1)&&(s.set.name==n)with
  | true=>rw[aN];rfl
  | false =>
   rw[aE,if_neg (by simp)];cases h1:(s.set.type==1)with
   | true =>
    rw[if_pos rfl,sf,aF];by_cases hn:n=s.set.name
    . rw[if_pos hn,hn];simp
    . rw[if_neg hn,if_neg (by simp;exact fun e=>hn e.symm)]
   | false=>rw[if_neg (by simp),aG];simp
theorem FY(a:Ans)(n:Bs):cJ n (iL a.sets)=if dQ a n=true then some (.bool true)else none:=by
 unfold iL;rw[BL];rfl
theorem yV(a:Bs):∀m:List (Bs×D),iD (.str a) (m.map iH)=some (cJ a m)
 | []=>rfl
 | (b,v)::t=>by
  show(match gA (.str a) [.tuple [.str b]]with | some true=>_ | some false=>iD (.str a) (t.map iH) | none=>none)=_
  have:gA (.str a) [.tuple [.str b]]=some (a==b):=rfl;rw[this];show _=some (if a=b then some v else cJ a t)
  by_cases h:a=b
  . subst h;simp
  . have:(a==b)=false:=by simp[h]
    rw[this,if_neg h];exact yV a t
theorem BM(a:Ans)(n:Bs):iD (.str n) ((iL a.sets).map iH)=some (if dQ a n=true then some (.bool true)else none):=by rw[yV,FY]
theorem Gf(zs:List ag)(a:Ans)(l:List Bs)(n:Bs):iM zs a (l++[n])=iM zs a l++(match (if dQ a n=true then none else eE zs n)with | some h=>[h] | none=>[]):=by
 unfold iM;rw[List.filterMap_append]
 congr 1
 rw[List.filterMap_cons];split <;> simp_all
theorem zG(zs:List ag)(a:Ans)(l:List Bs):(iM zs a l).length<=l.length:=List.length_filterMap_le _ _
theorem DO{zs:List ag}(hg:dB zs){a:Ans}{l:List Bs}(hl:∀n∈l,an n=true):∀b∈iM zs a l,an b=true:=fun b hb=>by
 unfold iM at hb;obtain⟨n,hn,hx⟩:=List.mem_filterMap.1 hb;split at hx
 . cases hx
 . exact iV hg (wk (hl n hn) hx)
structure JJ(a:Ans):Prop where
 sets:a.sets.length<=1000
 data:∀s∈a.sets,s.set.data.length<=100
theorem KA{z:aS}(hf:eH z=true)(q:bg):JJ (bH z q).1:=⟨Ep hf q,fun s hs=>by have:=((dG hf).2 s (Mz hf q s hs)).1;omega⟩
theorem xh{zs:List ag}(hg:dB zs){a:Bs}(ha:an a=true){p:Bs×Ans}(h:cF zs a=some p):JJ p.2:=by
 obtain⟨_,_,_,_,x,_,_,_,h2,u,_⟩:=wa hg ha h;rw[h2];exact KA u.few _
end NP
namespace Go.Proofs.YtjapjahfllomkaaGreatDoor
open NQ Go NP Go.RowKit
set_option maxHeartbeats 1000000 in
theorem BP(a:Ans)(hF:JJ a):NQ.Fn cx 137 [.agg (dq a)] (.tuple [.d (.slice 1 ((cH a).map au)), .d (.kmap ((iL a.sets).map iH))]) []:=by
 refine aP bf mixed Tryz.func137 (by kernel_rfl) rfl (ai rfl) ?_;conv=>whnf
 have hlen:∀k,(gp a.cut (a.sets.take k)).length<=100000:=fun k=>by
  have:=xt a.cut (a.sets.take k) fun s hs=>hF.data s (List.mem_of_mem_take hs)
  have h1:=List.length_take_le' k a.sets;have h2:=hF.sets;omega
 refine ⟨Nat, fun k => ⟨[(1, .ptr 1 0), (4, .own 4), (5, .omap 10), (12, .d (.slice 5 (a.sets.map ay))), (13, .d (.int .i64 ((a.sets.map ay).length : Int))), (14, .d (.int .i64 k))],
     [(1, .box ((dq a).map .d)),(4, .row 9 1 ((gp a.cut (a.sets.take k)).map au)),(10, .smap (iL (a.sets.take k)))]⟩,fun k=>k<=a.sets.length,fun k=>a.sets.length-k,
  ⟨0,Nat.zero_le _,(aj.jR 4 4 1 9 1 rfl rfl (by decide)).trans (aj.keep ⟨⟨rfl,rfl⟩,⟨rfl,rfl⟩,⟨rfl,rfl⟩,⟨rfl,rfl⟩,⟨rfl,rfl⟩,⟨rfl,rfl⟩,trivial⟩ ⟨⟨rfl,rfl⟩,⟨rfl,rfl⟩,⟨rfl,rfl⟩,trivial⟩)⟩,fun k hk=>?_⟩
 dsimp only at hk ⊢
 conv=>whnf
 refine ae (fun h1=>?_) (fun h1=>?_) <;> (rw[h1];conv=>whnf)
 case refine_2 =>
  obtain rfl:k=a.sets.length:=by simp at h1;omega
  rw[List.take_length];exact af rfl rfl
 have hlt:k<a.sets.length:=by simpa using h1
 obtain⟨s,hs⟩:∃s,a.sets[k]? =some s:=⟨_,ah hlt⟩
 have hsd:=hF.data s (ar hs);have hsl:=hF.sets;have g1:(s.set.type==1)=true->iL (a.sets.take (k+1))=cM s.set.name (.bool true) (iL (a.sets.take k)):=fun h=>by rw[bn hs,xp,if_pos h]
 have g0:(s.set.type==1)=false->iL (a.sets.take (k+1))=iL (a.sets.take k):=fun h=>by rw[bn hs,xp,if_neg (by rw[h];simp)]
 have n1:jA a.cut s=true->gp a.cut (a.sets.take (k+1))=gp a.cut (a.sets.take k)++s.set.data.map (·.text):=fun h=>by rw[bn hs,vg,if_pos h]
 have n0:jA a.cut s=false->gp a.cut (a.sets.take (k+1))=gp a.cut (a.sets.take k):=fun h=>by rw[bn hs,vg,if_neg (by rw[h];simp),List.append_nil]
 refine⟨az k,ay s,aT hs,?_⟩
 conv=>whnf
 refine ae (fun h2=>?_) (fun h2=>?_) <;> (rw[h2];conv=>whnf)
 . have hn:jA a.cut s=false:=by
    have e:s.set.type=1:=by simpa using h2
    unfold jA;rw[e];rfl
   refine ae (fun h3=>?_) (fun h3=>?_) <;> (rw[h3];conv=>whnf)
   . exfalso
     have e1:s.set.type=1:=by simpa using h2
     have e2:s.set.type=2:=by simpa using h3
     omega
   . refine⟨k+1,hlt,by(show a.sets.length-(k+1)<a.sets.length-k;omega),aj.keep ⟨⟨rfl,rfl⟩,⟨rfl,rfl⟩,⟨rfl,rfl⟩,⟨rfl,rfl⟩,⟨rfl,rfl⟩,⟨aq (by omega),rfl⟩,trivial⟩ ⟨⟨rfl,rfl⟩,⟨?_,rfl⟩,⟨?_,rfl⟩,trivial⟩⟩
     . rw[n0 hn];rfl
     . rw[g1 h2];rfl
 . refine ae (fun h3=>?_) (fun h3=>?_) <;> (rw[h3];conv=>whnf)
   case refine_2 =>
    refine⟨k+1,hlt,by(show a.sets.length-(k+1)<a.sets.length-k;omega),aj.keep ⟨⟨rfl,rfl⟩,⟨rfl,rfl⟩,⟨rfl,rfl⟩,⟨rfl,rfl⟩,⟨rfl,rfl⟩,⟨aq (by omega),rfl⟩,trivial⟩ ⟨⟨rfl,rfl⟩,⟨?_,rfl⟩,⟨?_,rfl⟩,trivial⟩⟩
    . rw[n0 (by unfold jA;rw[show(s.set.type==2)=false from h3];rfl)];rfl
    . rw[g0 h2];rfl
   refine ae (fun h4=>?_) (fun h4=>?_) <;> (rw[h4];conv=>whnf)
   case refine_2 =>
    refine⟨k+1,hlt,by(show a.sets.length-(k+1)<a.sets.length-k;omega),aj.keep ⟨⟨rfl,rfl⟩,⟨rfl,rfl⟩,⟨rfl,rfl⟩,⟨rfl,rfl⟩,⟨rfl,rfl⟩,⟨aq (by omega),rfl⟩,trivial⟩ ⟨⟨rfl,rfl⟩,⟨?_,rfl⟩,⟨?_,rfl⟩,trivial⟩⟩
    . rw[n0 (by unfold jA;rw[show(s.set.name==a.cut)=false from h4];exact aD _)];rfl
    . rw[g0 h2];rfl
   have hsv:jA a.cut s=true:=by unfold jA;rw[show(s.set.type==2)=true from h3,show(s.set.name==a.cut)=true from h4];rfl
   refine ⟨Nat, fun j => ⟨[(1, .ptr 1 0), (4, .own 4), (5, .omap 10), (12, .d (.slice 5 (a.sets.map ay))), (13, .d (.int .i64 ((a.sets.map ay).length : Int))), (14, .d (.int .i64 k)), (40, .d (.slice 3 (s.set.data.map cB))), (41, .d (.int .i64 ((s.set.data.map cB).length : Int))), (42, .d (.int .i64 j))],
       [(1, .box ((dq a).map .d)),(4, .row 9 1 ((gp a.cut (a.sets.take k)++(s.set.data.take j).map (·.text)).map au)),(10, .smap (iL (a.sets.take k)))]⟩,fun j=>j<=s.set.data.length,fun j=>s.set.data.length-j,
    ⟨0,Nat.zero_le _,aj.keep ⟨⟨rfl,rfl⟩,⟨rfl,rfl⟩,⟨rfl,rfl⟩,⟨rfl,rfl⟩,⟨rfl,rfl⟩,⟨rfl,rfl⟩,⟨rfl,rfl⟩,⟨rfl,rfl⟩,⟨rfl,rfl⟩,trivial⟩ ⟨⟨rfl,rfl⟩,⟨?_,rfl⟩,⟨rfl,rfl⟩,trivial⟩⟩,fun j hj=>?_⟩
   . show _=some (Blk.row _ _ ((gp a.cut (a.sets.take k)++[]).map au) _)
     rw[List.append_nil];rfl
   dsimp only at hj ⊢
   conv=>whnf
   refine ae (fun h5=>?_) (fun h5=>?_) <;> (rw[h5];conv=>whnf)
   . have hjl:j<s.set.data.length:=by simpa using h5
     obtain⟨d,hd⟩:∃d,s.set.data[j]? =some d:=⟨_,ah hjl⟩
     have:=hlen k;refine⟨az j,cB d,aT hd,?_⟩
     conv=>whnf
     refine⟨by(show((gp a.cut (a.sets.take k)++(s.set.data.take j).map (·.text)).map au).length+1<=_);simp;omega,by(show(((gp a.cut (a.sets.take k)++(s.set.data.take j).map (·.text)).map au).length+1)*16<=_);simp;omega,?_⟩
     conv=>whnf
     refine⟨j+1,hjl,by(show s.set.data.length-(j+1)<s.set.data.length-j;omega),aj.keep ⟨⟨rfl,rfl⟩,⟨rfl,rfl⟩,⟨rfl,rfl⟩,⟨rfl,rfl⟩,⟨rfl,rfl⟩,⟨rfl,rfl⟩,⟨rfl,rfl⟩,⟨rfl,rfl⟩,⟨aq (by omega),rfl⟩,trivial⟩ ⟨⟨rfl,rfl⟩,⟨?_,rfl⟩,⟨rfl,rfl⟩,trivial⟩⟩;rw[bn hd];simp only[List.map_append,List.append_assoc];rfl
   . obtain rfl:j=s.set.data.length:=by simp at h5;omega
     refine⟨k+1,hlt,by(show a.sets.length-(k+1)<a.sets.length-k;omega),aj.keep ⟨⟨rfl,rfl⟩,⟨rfl,rfl⟩,⟨rfl,rfl⟩,⟨rfl,rfl⟩,⟨rfl,rfl⟩,⟨aq (by omega),rfl⟩,trivial⟩ ⟨⟨rfl,rfl⟩,⟨?_,rfl⟩,⟨?_,rfl⟩,trivial⟩⟩
     . rw[n1 hsv,List.take_length];rfl
     . rw[g0 h2];rfl
noncomputable def cxL:Cx:={cx with chg:=fun g=>match Nat.beq g 169 with | true=>2 | false=>(match Nat.beq g 170 with | true=>1 | false=>cx.chg g)}
theorem tyL:bB cxL:=bf
theorem N7:cxL.P.follows .mixedOrders=true:=mixed
set_option maxHeartbeats 1000000 in
theorem Cb(zs:List ag)(a:Bs)(hg:dB zs)(ha:an a=true):NQ.Fn cx 92 [.agg (db zs), .str a] (.d (.slice 1 ((bI zs a).map au))) []:=by
 show NQ.Fn cxL _ _ _ _
 refine df (fun _=>[]) tyL N7 Tryz.func92 (by kernel_rfl) rfl (ai rfl) ?_
 conv=>whnf
 (refine⟨_,_,zk zs a hg ha,?_⟩;conv=>whnf)
 cases hd:cF zs a with
 | none =>
  have e:bI zs a=[]:=by unfold bI;rw[hd]
  rw[e]
  conv=>whnf
  exact af rfl rfl
 | some p =>
  have e:bI zs a=Lib.compact (gE (iM zs p.2 (cH p.2))):=by unfold bI;rw[hd]
  obtain⟨_,_,_,_,hv,hl⟩:=o7 hg ha hd;rw[e]
  conv=>whnf
  (refine⟨_,_,BP p.2 (xh hg ha hd),?_⟩;conv=>whnf)
  generalize cH p.2=hs at hv hl ⊢
  refine ⟨Nat, fun k => ⟨[(2, .ptr 2 0), (9, .d (.kmap ((iL p.2.sets).map iH))), (10, .own 10), (29, .d (.slice 1 (hs.map au))), (30, .d (.int .i64 ((hs.map au).length : Int))), (31, .d (.int .i64 k))],
      [(2, .box ((db zs).map .d)),(10, .row 9 1 ((iM zs p.2 (hs.take k)).map au))]⟩,fun k=>k<=hs.length,fun k=>hs.length-k,
   ⟨0,Nat.zero_le _,(aj.jR 10 10 1 9 1 rfl rfl (by decide)).trans (aj.keep ⟨⟨rfl,rfl⟩,⟨rfl,rfl⟩,⟨rfl,rfl⟩,⟨rfl,rfl⟩,⟨rfl,rfl⟩,⟨rfl,rfl⟩,trivial⟩ ⟨⟨rfl,rfl⟩,⟨rfl,rfl⟩,trivial⟩)⟩,fun k hk=>?_⟩
  dsimp only at hk ⊢
  conv=>whnf
  refine ae (fun h1=>?_) (fun h1=>?_) <;> (rw[h1];conv=>whnf)
  . have hlt:k<hs.length:=by simpa using h1
    obtain⟨n,hn⟩:∃n,hs[k]? =some n:=⟨_,ah hlt⟩
    have hnl:(iM zs p.2 (hs.take k)).length<=20:=by
     have:=zG zs p.2 (hs.take k);have:=List.length_take_le' k hs;omega
    refine⟨az k,au n,aT hn,?_⟩
    conv=>whnf
    (refine⟨_,_,Bz zs n (hv n (ar hn)),?_⟩;conv=>whnf)
    have hnext:=Gf zs p.2 (hs.take k) n;rw[<- bn hn]at hnext;cases hh:eE zs n with
    | none =>
     conv=>whnf
     refine⟨k+1,hlt,by(show hs.length-(k+1)<hs.length-k;omega),aj.keep ⟨⟨rfl,rfl⟩,⟨rfl,rfl⟩,⟨rfl,rfl⟩,⟨rfl,rfl⟩,⟨rfl,rfl⟩,⟨aq (by omega),rfl⟩,trivial⟩ ⟨⟨rfl,rfl⟩,⟨?_,rfl⟩,trivial⟩⟩;rw[hnext,hh];have:(if dQ p.2 n=true then none else(none:Option Bs))=none:=by split <;> rfl
     rw[this,List.append_nil];rfl
    | some b =>
     conv=>whnf
     refine⟨_,BM p.2 n,?_⟩;cases hgl:dQ p.2 n with
     | true =>
      conv=>whnf
      refine⟨k+1,hlt,by(show hs.length-(k+1)<hs.length-k;omega),aj.keep ⟨⟨rfl,rfl⟩,⟨rfl,rfl⟩,⟨rfl,rfl⟩,⟨rfl,rfl⟩,⟨rfl,rfl⟩,⟨aq (by omega),rfl⟩,trivial⟩ ⟨⟨rfl,rfl⟩,⟨?_,rfl⟩,trivial⟩⟩;rw[hnext,hgl,if_pos rfl,List.append_nil];rfl
     | false =>
      conv=>whnf
      refine⟨by(show((iM zs p.2 (hs.take k)).map au).length+1<=_);simp;omega,by(show(((iM zs p.2 (hs.take k)).map au).length+1)*16<=_);simp;omega,?_⟩
      conv=>whnf
      refine⟨k+1,hlt,by(show hs.length-(k+1)<hs.length-k;omega),aj.keep ⟨⟨rfl,rfl⟩,⟨rfl,rfl⟩,⟨rfl,rfl⟩,⟨rfl,rfl⟩,⟨rfl,rfl⟩,⟨aq (by omega),rfl⟩,trivial⟩ ⟨⟨rfl,rfl⟩,⟨?_,rfl⟩,trivial⟩⟩;rw[hnext,hgl,if_neg (by simp),hh,List.map_append];rfl
  . obtain rfl:k=hs.length:=by simp at h1;omega
    rw[List.take_length];have hnl:(iM zs p.2 hs).length<=20:=Nat.le_trans (zG zs p.2 hs) hl;have hnv:=DO hg (a:=p.2) hv;have hsl:(gE (iM zs p.2 hs)).length<=100000:=by rw[(fE _).length_eq];omega
    refine⟨_,vF _ hnv (by omega) _,?_⟩;generalize gE (iM zs p.2 hs)=l at hsl ⊢
    conv=>whnf
    refine⟨_,Dl l hsl _,?_⟩
    conv=>whnf
    exact af rfl rfl
end Go.Proofs.YtjapjahfllomkaaGreatDoor
namespace NP
open NQ Go
theorem yR(zs:List ag)(a:Ans)(l:List Bs)(n:Bs):fe zs a (l++[n])=fe zs a l++(match (if dQ a n=true then none else match eE zs n with | none=>none | some h=>if lr zs h n=true then some h else none)with | some h=>[h] | none=>[]):=by
 unfold fe;rw[List.filterMap_append]
 congr 1
 cases hg:dQ a n with
 | true=>simp[List.filterMap_cons,hg]
 | false =>
  cases hh:eE zs n with
  | none=>simp[List.filterMap_cons,hg,hh]
  | some b=>cases hk:lr zs b n <;> simp[List.filterMap_cons,hg,hh,hk]
theorem sy(zs:List ag)(a:Ans)(l:List Bs):(fe zs a l).length<=l.length:=List.length_filterMap_le _ _
end NP
namespace Go.Proofs.YtjapjahfllomkaaGreatDoor
open NQ Go NP Go.RowKit
set_option maxHeartbeats 2000000 in
theorem Nw(zs:List ag)(a:Bs)(hg:dB zs)(ha:an a=true):NQ.Fn cx 73 [.agg (db zs), .str a] (.agg ((uN (gX zs a)).map .d)) []:=by
 refine aP bf mixed Tryz.func73 (by kernel_rfl) rfl (ai rfl) ?_;conv=>whnf
 (refine⟨_,_,zk zs a hg ha,?_⟩;conv=>whnf)
 cases hd:cF zs a with
 | none =>
  have e:gX zs a=Ms:=by unfold gX;rw[hd]
  rw[e]
  conv=>whnf
  exact af rfl rfl
 | some p =>
  have e:gX zs a=⟨true,(cH p.2).any (dQ p.2),p.1,fe zs p.2 (cH p.2)⟩:=by unfold gX;rw[hd]
  obtain⟨_,_,_,_,hv,hl⟩:=o7 hg ha hd;rw[e]
  conv=>whnf
  (refine⟨_,_,BP p.2 (xh hg ha hd),?_⟩;conv=>whnf)
  generalize cH p.2=hs at hv hl ⊢
  refine ⟨Nat, fun k => ⟨[(2, .ptr 2 0), (4, .ptr 4 0), (8, .ptr 8 0), (10, .d (.kmap ((iL p.2.sets).map iH))), (34, .d (.slice 1 (hs.map au))), (35, .d (.int .i64 ((hs.map au).length : Int))), (36, .d (.int .i64 k))],
      [(2, .box ((db zs).map .d)),(4, .box [.d (.bool false), .d (.bool false), .d (.str []), .nil 1]),(8, .box [.d (.bool true), .d (.bool ((hs.take k).any (dQ p.2))), .d (.str p.1), .own 200]),(200, .row 9 1 ((fe zs p.2 (hs.take k)).map au))]⟩,fun k=>k<=hs.length,fun k=>hs.length-k,
   ⟨0,Nat.zero_le _,(aj.rU 8 3 200 1 [.d (.bool true), .d (.bool false), .d (.str p.1), .nil 1] 9 1 (by kernel_rfl) rfl (by kernel_rfl) (by decide)).trans (aj.keep ⟨⟨rfl,rfl⟩,⟨rfl,rfl⟩,⟨rfl,rfl⟩,⟨rfl,rfl⟩,⟨rfl,rfl⟩,⟨rfl,rfl⟩,⟨rfl,rfl⟩,trivial⟩ ⟨⟨rfl,rfl⟩,⟨rfl,rfl⟩,⟨rfl,rfl⟩,⟨rfl,rfl⟩,trivial⟩)⟩,fun k hk=>?_⟩
  dsimp only at hk ⊢
  conv=>whnf
  refine ae (fun h1=>?_) (fun h1=>?_) <;> (rw[h1];conv=>whnf)
  case refine_2 =>
   obtain rfl:k=hs.length:=by simp at h1;omega
   rw[List.take_length];exact af rfl rfl
  have hlt:k<hs.length:=by simpa using h1
  obtain⟨n,hn⟩:∃n,hs[k]? =some n:=⟨_,ah hlt⟩
  have hvn:=hv n (ar hn);have hnl:(fe zs p.2 (hs.take k)).length<=20:=by
   have:=sy zs p.2 (hs.take k);have:=List.length_take_le' k hs;omega
  have hnext:=yR zs p.2 (hs.take k) n;rw[<- bn hn]at hnext;have hany:(hs.take (k+1)).any (dQ p.2)=((hs.take k).any (dQ p.2)||dQ p.2 n):=by rw[bn hn,List.any_append];simp
  refine⟨az k,au n,aT hn,?_⟩
  conv=>whnf
  refine⟨_,BM p.2 n,?_⟩;cases hgl:dQ p.2 n with
  | true =>
   conv=>whnf
   refine⟨k+1,hlt,by(show hs.length-(k+1)<hs.length-k;omega),aj.keep ⟨⟨rfl,rfl⟩,⟨rfl,rfl⟩,⟨rfl,rfl⟩,⟨rfl,rfl⟩,⟨rfl,rfl⟩,⟨rfl,rfl⟩,⟨aq (by omega),rfl⟩,trivial⟩ ⟨⟨rfl,rfl⟩,⟨rfl,rfl⟩,⟨?_,rfl⟩,⟨?_,rfl⟩,trivial⟩⟩
   . rw[hany,hgl,aN];rfl
   . rw[hnext,hgl,if_pos rfl,List.append_nil];rfl
  | false =>
   have hany:(hs.take (k+1)).any (dQ p.2)=(hs.take k).any (dQ p.2):=by rw[hany,hgl,aE]
   rw[hgl,if_neg (by simp)]at hnext
   conv=>whnf
   (refine⟨_,_,Bz zs n hvn,?_⟩;conv=>whnf)
   cases hh:eE zs n with
   | none =>
    rw[hh]at hnext
    conv=>whnf
    refine⟨k+1,hlt,by(show hs.length-(k+1)<hs.length-k;omega),aj.keep ⟨⟨rfl,rfl⟩,⟨rfl,rfl⟩,⟨rfl,rfl⟩,⟨rfl,rfl⟩,⟨rfl,rfl⟩,⟨rfl,rfl⟩,⟨aq (by omega),rfl⟩,trivial⟩ ⟨⟨rfl,rfl⟩,⟨rfl,rfl⟩,⟨?_,rfl⟩,⟨?_,rfl⟩,trivial⟩⟩
    . rw[hany];rfl
    . rw[hnext,List.append_nil];rfl
   | some b =>
    rw[hh]at hnext;have hsp:=rE zs hvn;rw[hh]at hsp;obtain⟨x,hx⟩:=Option.isSome_iff_exists.1 hsp.1;have hkn:lr zs b n=((bH x.2.zone ⟨n,1⟩).1.kind==1):=by unfold lr;rw[hx]
    have hzk:=oa zs b;rw[hx]at hzk
    conv=>whnf
    refine⟨_,hzk,?_⟩
    conv=>whnf
    (refine⟨_,_,wV x.2.zone ⟨n,1⟩ (by have:=(dG (hg _ (kG hx).1).1).1;omega),?_⟩;conv=>whnf)
    refine ae (fun h2=>?_) (fun h2=>?_) <;> (rw[h2];conv=>whnf)
    . have h2' :lr zs b n=true:=hkn.trans h2;refine⟨by(show((fe zs p.2 (hs.take k)).map au).length+1<=_);simp;omega,by(show(((fe zs p.2 (hs.take k)).map au).length+1)*16<=_);simp;omega,?_⟩
      conv=>whnf
      refine⟨k+1,hlt,by(show hs.length-(k+1)<hs.length-k;omega),aj.keep ⟨⟨rfl,rfl⟩,⟨rfl,rfl⟩,⟨rfl,rfl⟩,⟨rfl,rfl⟩,⟨rfl,rfl⟩,⟨rfl,rfl⟩,⟨aq (by omega),rfl⟩,trivial⟩ ⟨⟨rfl,rfl⟩,⟨rfl,rfl⟩,⟨?_,rfl⟩,⟨?_,rfl⟩,trivial⟩⟩
      . rw[hany];rfl
      . rw[hnext];dsimp only;rw[if_pos h2',List.map_append];rfl
    . have h2' :lr zs b n=false:=hkn.trans h2;refine⟨k+1,hlt,by(show hs.length-(k+1)<hs.length-k;omega),aj.keep ⟨⟨rfl,rfl⟩,⟨rfl,rfl⟩,⟨rfl,rfl⟩,⟨rfl,rfl⟩,⟨rfl,rfl⟩,⟨rfl,rfl⟩,⟨aq (by omega),rfl⟩,trivial⟩ ⟨⟨rfl,rfl⟩,⟨rfl,rfl⟩,⟨?_,rfl⟩,⟨?_,rfl⟩,trivial⟩⟩
      . rw[hany];rfl
      . rw[hnext];dsimp only;rw[if_neg (by rw[h2'];simp),List.append_nil];rfl
end Go.Proofs.YtjapjahfllomkaaGreatDoor
namespace NP
open NQ Go
def my(zs:List ag)(l:List Bs):List (Bs×D):=l.map fun a=>(a, .agg (uN (gX zs a)))
theorem vv(zs:List ag)(a:Bs):∀l:List Bs,cJ a (my zs l)=if l.contains a=true then some (.agg (uN (gX zs a)))else none
 | []=>rfl
 | b::t=>by
  show(if a=b then _ else cJ a (my zs t))=_
  rw[vv zs a t,List.contains_cons];by_cases h:a=b
  . subst h;simp
  . rw[if_neg h,show(a==b)=false by simpa using h,aC]
theorem xT(zs:List ag){a:Bs}:∀{r:List Bs},r.contains a=false->cM a (.agg (uN (gX zs a))) (my zs r)=my zs (r++[a])
 | [],_=>rfl
 | b::t,h=>by
  rw[List.contains_cons,Bool.or_eq_false_iff]at h;have hne:¬a=b:=by simpa using h.1
  show(if a=b then _ else(b,_)::cM a _ (my zs t))=_
  rw[if_neg hne,xT zs h.2];rfl
def tr(l:List Bs)(p:Bs->Bool):Int:=if l.any p=true then(l.findIdx p:Int)else -1
theorem KT{l:List Bs}{p:Bs->Bool}{k:Nat}{x:Bs}(hno:(l.take k).any p=false)(hx:l[k]? =some x)(hp:p x=true):tr l p=k:=by
 obtain⟨hlt,e⟩:=av.1 hx;unfold tr;rw[if_pos (List.any_eq_true.2 ⟨x,ar hx,hp⟩)]
 congr 1
 rw[List.findIdx_eq hlt];refine⟨by rw[e];exact hp,fun j hj=>?_⟩;have h1:l[j]∈l.take k:=by
  rw[List.mem_take_iff_getElem];exact⟨j,by omega,rfl⟩
 have:=List.any_eq_false.1 hno _ h1;simpa using this
theorem Ir{l:List Bs}{p:Bs->Bool}(h:l.any p=false):tr l p= -1:=by unfold tr;rw[if_neg (by rw[h];simp)]
theorem KU(l:List Bs)(p:Bs->Bool):decide (tr l p>=0)=l.any p:=by
 unfold tr;cases h:l.any p with
 | true=>rw[if_pos rfl];exact decide_eq_true (az _)
 | false=>rw[if_neg (by simp)];rfl
theorem I7(zs:List ag){a:Bs}(h:a∈aw zs):iD (.str a) ((my zs (aw zs)).map iH)=some (some (.agg (uN (gX zs a)))):=by
 rw[yV,vv,if_pos (cr.2 h)]
end NP
namespace Go.Proofs.YtjapjahfllomkaaGreatDoor
open NQ Go NP Go.RowKit
noncomputable def cxZ:Cx:={cx with chg:=fun g=>match Nat.beq g 74 with | true=>6 | false=>(match Nat.beq g 75 with | true=>6 | false=>(match Nat.beq g 140 with | true=>6 | false=>  (match Nat.beq g 209 with | true=>6 | false=>(match Nat.beq g 76 with | true=>6 | false=>cx.chg g))))}
theorem tyZ:bB cxZ:=bf
theorem qN:cxZ.P.follows .mixedOrders=true:=mixed
def isR:AV:= .fn 74 [] [.ptr 100008 0]
def hZ(r:List Bs):List (Nat×Blk):=[(100008, .box [.omap 33]),(100009, .box [isR]),(33, .smap (ga r))]
def hG(zs:List ag)(r:List Bs):List (Nat×Blk):=[(100004, .box ((db zs).map .d)),(100005, .box [.d (.kmap ((my zs (aw zs)).map iH))]),(100008, .box [.omap 33]),(100009, .box [isR]),(33, .smap (ga r))]
theorem su(r:List Bs)(a:Bs):FnH cxZ 74 [.d (.str a), .ptr 100008 0] (hZ r) (.d (.bool (r.contains a))) (hZ r):=by
 refine mj (fun _=>[]) tyZ qN Tryz.func74 (by kernel_rfl) rfl (ai rfl) (ai rfl) ?_
 conv=>whnf
 rw[gD];cases h:r.contains a with
 | true =>
  conv=>whnf
  exact⟨[(3, .d (.bool true))],aj.keep ⟨⟨(by kernel_rfl),(by kernel_rfl)⟩,trivial⟩ ⟨⟨(by kernel_rfl),(by kernel_rfl)⟩,⟨(by kernel_rfl),(by kernel_rfl)⟩,⟨(by kernel_rfl),(by kernel_rfl)⟩,trivial⟩,rfl⟩
 | false =>
  conv=>whnf
  exact⟨[(3, .d (.bool false))],aj.keep ⟨⟨(by kernel_rfl),(by kernel_rfl)⟩,trivial⟩ ⟨⟨(by kernel_rfl),(by kernel_rfl)⟩,⟨(by kernel_rfl),(by kernel_rfl)⟩,⟨(by kernel_rfl),(by kernel_rfl)⟩,trivial⟩,rfl⟩
theorem F2(l r:List Bs)(hl:l.length<=100000):FnH cxZ 209 [.d (.slice 1 (l.map au)),isR] (hZ r) (.d (.int .i64 (tr l r.contains))) (hZ r):=by
 refine mj (fun | 4=>[88888] | _=>[]) tyZ qN Tryz.func209 (by kernel_rfl) rfl (ai rfl) (ai rfl) ?_
 conv=>whnf
 refine⟨Nat,fun k=>⟨[(0, .d (.slice 1 (l.map au))),(1,isR),(7, .d (.int .i64 ((l.map au).length:Int))),(8, .d (.int .i64 k))],hZ r⟩,fun k=>k<=l.length/\(l.take k).any r.contains=false,fun k=>l.length-k,
  ⟨0,⟨Nat.zero_le _,rfl⟩,aj.keep ⟨⟨rfl,rfl⟩,⟨rfl,rfl⟩,⟨rfl,rfl⟩,⟨rfl,rfl⟩,trivial⟩ ⟨⟨rfl,rfl⟩,⟨rfl,rfl⟩,⟨rfl,rfl⟩,trivial⟩⟩,fun k ⟨hk,hno⟩=>?_⟩
 dsimp only at hk hno ⊢
 conv=>whnf
 refine ae (fun h1=>?_) (fun h1=>?_) <;> (rw[h1];conv=>whnf)
 . have hlt:k<l.length:=by simpa using h1
   obtain⟨x,hx⟩:∃x,l[k]? =some x:=⟨_,ah hlt⟩
   refine⟨az k,au x,aT hx,?_⟩
   conv=>whnf
   refine⟨[],_,_,su r x,⟨⟨by kernel_rfl,by kernel_rfl⟩,by kernel_rfl,by kernel_rfl,by kernel_rfl⟩,?_⟩
   conv=>whnf
   cases hr:r.contains x with
   | true =>
    conv=>whnf
    rw[KT hno hx hr];exact⟨[(4, .d (.int .i64 k))],aj.keep ⟨⟨rfl,rfl⟩,trivial⟩ ⟨⟨rfl,rfl⟩,⟨rfl,rfl⟩,⟨rfl,rfl⟩,trivial⟩,rfl⟩
   | false =>
    conv=>whnf
    refine⟨k+1,⟨hlt,?_⟩,by(show l.length-(k+1)<l.length-k;omega),aj.keep ⟨⟨rfl,rfl⟩,⟨rfl,rfl⟩,⟨rfl,rfl⟩,⟨aq (by omega),rfl⟩,trivial⟩ ⟨⟨rfl,rfl⟩,⟨rfl,rfl⟩,⟨rfl,rfl⟩,trivial⟩⟩;rw[bn hx,List.any_append,hno];simp only[List.any_cons,List.any_nil,hr];rfl
 . obtain rfl:k=l.length:=by simp at h1;omega
   rw[List.take_length]at hno;rw[Ir hno];exact⟨[(4, .d (.int .i64 (-1)))],aj.keep ⟨⟨rfl,rfl⟩,trivial⟩ ⟨⟨rfl,rfl⟩,⟨rfl,rfl⟩,⟨rfl,rfl⟩,trivial⟩,rfl⟩
theorem Ao(l r:List Bs)(hl:l.length<=100000):FnH cxZ 140 [.d (.slice 1 (l.map au)),isR] (hZ r) (.d (.bool (l.any r.contains))) (hZ r):=by
 refine mj (fun | 1=>[88888] | _=>[]) tyZ qN Tryz.func140 (by kernel_rfl) rfl (ai rfl) (ai rfl) ?_
 conv=>whnf
 refine⟨[],_,_,F2 l r hl,⟨⟨by kernel_rfl,by kernel_rfl⟩,by kernel_rfl,by kernel_rfl,by kernel_rfl⟩,?_⟩
 conv=>whnf
 rw[<- KU l r.contains];exact⟨[(4, .d (.bool (decide (tr l r.contains>=0))))],aj.keep ⟨⟨rfl,rfl⟩,trivial⟩ ⟨⟨rfl,rfl⟩,⟨rfl,rfl⟩,⟨rfl,rfl⟩,trivial⟩,rfl⟩
theorem Li(rd:ur)(r:List Bs)(hl:rd.homes.length<=100000):FnH cxZ 76 [.agg ((uN rd).map .d),isR] (hZ r) (.d (.bool (lE rd r.contains))) (hZ r):=by
 obtain⟨th,gl,ab,hm⟩:=rd;refine mj (fun | 1=>[88888] | _=>[]) tyZ qN Tryz.func76 (by kernel_rfl) rfl (ai rfl) (ai rfl) ?_
 conv=>whnf
 cases th with
 | false =>
  conv=>whnf
  exact⟨[(4, .d (.bool false))],aj.keep ⟨⟨rfl,rfl⟩,trivial⟩ ⟨⟨rfl,rfl⟩,⟨rfl,rfl⟩,⟨rfl,rfl⟩,trivial⟩,rfl⟩
 | true =>
  conv=>whnf
  refine⟨[2],_,_,su r ab,⟨⟨by kernel_rfl,by kernel_rfl⟩,by kernel_rfl,by kernel_rfl,by kernel_rfl⟩,?_⟩
  conv=>whnf
  have e:lE ⟨true,gl,ab,hm⟩ r.contains=(r.contains ab&&(gl||hm.any r.contains)):=by unfold lE;rw[aF]
  rw[e];cases ha:r.contains ab with
  | false =>
   conv=>whnf
   exact⟨[(4, .d (.bool false))],aj.keep ⟨⟨rfl,rfl⟩,trivial⟩ ⟨⟨rfl,rfl⟩,⟨rfl,rfl⟩,⟨rfl,rfl⟩,trivial⟩,rfl⟩
  | true =>
   conv=>whnf
   cases gl with
   | true =>
    conv=>whnf
    exact⟨[(4, .d (.bool true))],aj.keep ⟨⟨rfl,rfl⟩,trivial⟩ ⟨⟨rfl,rfl⟩,⟨rfl,rfl⟩,⟨rfl,rfl⟩,trivial⟩,rfl⟩
   | false =>
    conv=>whnf
    refine⟨[2],_,_,Ao hm r hl,⟨⟨by kernel_rfl,by kernel_rfl⟩,by kernel_rfl,by kernel_rfl,by kernel_rfl⟩,?_⟩
    conv=>whnf
    exact⟨[(4, .d (.bool (hm.any r.contains)))],aj.keep ⟨⟨rfl,rfl⟩,trivial⟩ ⟨⟨rfl,rfl⟩,⟨rfl,rfl⟩,⟨rfl,rfl⟩,trivial⟩,rfl⟩
set_option maxHeartbeats 1000000 in
theorem KQ(zs:List ag)(r:List Bs)(hg:dB zs)(hz:zs.length<=1000):FnH cxZ 75 [.ptr 100004 0, .ptr 100008 0, .ptr 100005 0, .ptr 100009 0] (hG zs r) (.d (.bool (decide (r.length<(ff zs r).length)))) (hG zs (ff zs r)):=by
 have hal:=jy zs;refine mj (fun | 5=>[88888] | _=>[]) tyZ qN Tryz.func75 (by kernel_rfl) rfl (ai rfl) (ai rfl) ?_
 conv=>whnf
 refine⟨Nat×List Bs,fun x=>⟨[(0, .ptr 100004 0),(1, .ptr 100008 0),(2, .ptr 100005 0),(3, .ptr 100009 0),(5, .d (.bool (decide (r.length<x.2.length)))),(9, .d (.slice 1 ((aw zs).map au))),(10, .d (.int .i64 (((aw zs).map au).length:Int))),(11, .d (.int .i64 x.1))],hG zs x.2⟩,
  fun x=>x.1<=(aw zs).length/\nr zs x.2 ((aw zs).drop x.1)=ff zs r/\r.length<=x.2.length,fun x=>(aw zs).length-x.1,
  ⟨(0,r),⟨Nat.zero_le _,rfl,Nat.le_refl _⟩,aj.keep ⟨⟨rfl,rfl⟩,⟨rfl,rfl⟩,⟨rfl,rfl⟩,⟨rfl,rfl⟩,⟨by(show AV.d (D.bool false)=AV.d (D.bool (decide (r.length<r.length))));rw[decide_eq_false (Nat.lt_irrefl _)],rfl⟩,⟨rfl,rfl⟩,⟨rfl,rfl⟩,⟨rfl,rfl⟩,trivial⟩ ⟨⟨rfl,rfl⟩,⟨rfl,rfl⟩,⟨rfl,rfl⟩,⟨rfl,rfl⟩,⟨rfl,rfl⟩,trivial⟩⟩,fun⟨k,r'⟩ ⟨hk,hinv,hle⟩=>?_⟩
 dsimp only at hk hinv hle ⊢
 conv=>whnf
 refine ae (fun h1=>?_) (fun h1=>?_) <;> (rw[h1];conv=>whnf)
 case refine_2 =>
  obtain rfl:k=(aw zs).length:=by simp at h1;omega
  rw[List.drop_length]at hinv;have hinv:r' =ff zs r:=hinv;subst hinv;exact⟨[(4, .d (.bool (decide (r.length<(ff zs r).length))))],aj.keep ⟨⟨rfl,rfl⟩,trivial⟩ ⟨⟨rfl,rfl⟩,⟨rfl,rfl⟩,⟨rfl,rfl⟩,⟨rfl,rfl⟩,⟨rfl,rfl⟩,trivial⟩,rfl⟩
 have hlt:k<(aw zs).length:=by simpa using h1
 obtain⟨a,ha⟩:∃a,(aw zs)[k]? =some a:=⟨_,ah hlt⟩
 have ham:=ar ha;rw[drop_cons ha]at hinv;have hinv:nr zs (dD zs r' a) ((aw zs).drop (k+1))=ff zs r:=hinv;have same:gz zs r' a=false->dD zs r' a=r' :=fun h=>by unfold dD;rw[if_neg (by rw[h];simp)]
 have more:gz zs r' a=true->dD zs r' a=r' ++[a]:=fun h=>by unfold dD;rw[if_pos h]
 refine⟨az k,au a,aT ha,?_⟩
 conv=>whnf
 rw[gD];have roadlen:(gX zs a).homes.length<=100000:=by
  unfold gX;cases hd:cF zs a with
  | none=>exact Nat.zero_le _
  | some p =>
   have hav:an a=true:=iV hg ((gI zs a).2 (iy.1 ham));obtain⟨_,_,_,_,_,hl⟩:=o7 hg hav hd;have:=sy zs p.2 (cH p.2);dsimp only;omega
 cases hc:r'.contains a with
 | true =>
  have hgo:gz zs r' a=false:=by unfold gz;rw[hc];rfl
  rw[same hgo]at hinv
  conv=>whnf
  exact⟨(k+1,r'),⟨hlt,hinv,hle⟩,by(show(aw zs).length-(k+1)<(aw zs).length-k;omega),aj.keep ⟨⟨rfl,rfl⟩,⟨rfl,rfl⟩,⟨rfl,rfl⟩,⟨rfl,rfl⟩,⟨rfl,rfl⟩,⟨rfl,rfl⟩,⟨rfl,rfl⟩,⟨aq (by omega),rfl⟩,trivial⟩ ⟨⟨rfl,rfl⟩,⟨rfl,rfl⟩,⟨rfl,rfl⟩,⟨rfl,rfl⟩,⟨rfl,rfl⟩,trivial⟩⟩
 | false =>
  have hnew : gz zs r' a = true -> aj cxZ ⟨[(0, .ptr 100004 0), (1, .ptr 100008 0), (2, .ptr 100005 0), (3, .ptr 100009 0), (5, .d (.bool true)), (9, .d (.slice 1 ((aw zs).map au))), (10, .d (.int .i64 (((aw zs).map au).length : Int))), (11, .d (.int .i64 ((k + 1 : Nat) : Int)))], [(100004, .box ((db zs).map .d)), (100005, .box [.d (.kmap ((my zs (aw zs)).map iH))]), (100008, .box [.omap 33]), (100009, .box [isR]), (33, .smap (cM a (.bool true) (ga r')))]⟩
      ⟨[(0, .ptr 100004 0),(1, .ptr 100008 0),(2, .ptr 100005 0),(3, .ptr 100009 0),(5, .d (.bool (decide (r.length<(r' ++[a]).length)))),(9, .d (.slice 1 ((aw zs).map au))),(10, .d (.int .i64 (((aw zs).map au).length:Int))),(11, .d (.int .i64 ((k+1:Nat):Int)))],hG zs (r' ++[a])⟩:=fun _=>by
   refine aj.keep ⟨⟨rfl,rfl⟩,⟨rfl,rfl⟩,⟨rfl,rfl⟩,⟨rfl,rfl⟩,⟨?_,rfl⟩,⟨rfl,rfl⟩,⟨rfl,rfl⟩,⟨rfl,rfl⟩,trivial⟩ ⟨⟨rfl,rfl⟩,⟨rfl,rfl⟩,⟨rfl,rfl⟩,⟨rfl,rfl⟩,⟨congrArg (fun m=>some (Blk.smap m)) (tT hc),rfl⟩,trivial⟩;rw[decide_eq_true (by simp;omega)];rfl
  conv=>whnf
  cases h46:(a==[46])with
  | true =>
   have hgo:gz zs r' a=true:=by unfold gz;rw[hc,h46];rfl
   rw[more hgo]at hinv
   conv=>whnf
   refine⟨(k+1,r' ++[a]),⟨hlt,hinv,by simp;omega⟩,by(show(aw zs).length-(k+1)<(aw zs).length-k;omega),aj.trans ?_ (hnew hgo)⟩;exact aj.keep ⟨⟨rfl,rfl⟩,⟨rfl,rfl⟩,⟨rfl,rfl⟩,⟨rfl,rfl⟩,⟨rfl,rfl⟩,⟨rfl,rfl⟩,⟨rfl,rfl⟩,⟨aq (by omega),rfl⟩,trivial⟩ ⟨⟨rfl,rfl⟩,⟨rfl,rfl⟩,⟨rfl,rfl⟩,⟨rfl,rfl⟩,⟨rfl,rfl⟩,trivial⟩
  | false =>
   conv=>whnf
   refine⟨_,I7 zs ham,?_⟩
   conv=>whnf
   refine⟨[100004,100005],_,_,Li (gX zs a) r' roadlen,⟨⟨by kernel_rfl,by kernel_rfl⟩,by kernel_rfl,by kernel_rfl,by kernel_rfl⟩,?_⟩
   conv=>whnf
   cases ho:lE (gX zs a) r'.contains with
   | true =>
    have hgo:gz zs r' a=true:=by unfold gz;rw[hc,ho];simp
    rw[more hgo]at hinv
    conv=>whnf
    refine⟨(k+1,r' ++[a]),⟨hlt,hinv,by simp;omega⟩,by(show(aw zs).length-(k+1)<(aw zs).length-k;omega),aj.trans ?_ (hnew hgo)⟩;exact aj.keep ⟨⟨rfl,rfl⟩,⟨rfl,rfl⟩,⟨rfl,rfl⟩,⟨rfl,rfl⟩,⟨rfl,rfl⟩,⟨rfl,rfl⟩,⟨rfl,rfl⟩,⟨aq (by omega),rfl⟩,trivial⟩ ⟨⟨rfl,rfl⟩,⟨rfl,rfl⟩,⟨rfl,rfl⟩,⟨rfl,rfl⟩,⟨rfl,rfl⟩,trivial⟩
   | false =>
    have hgo:gz zs r' a=false:=by unfold gz;rw[hc,ho,h46];rfl
    rw[same hgo]at hinv
    conv=>whnf
    exact⟨(k+1,r'),⟨hlt,hinv,hle⟩,by(show(aw zs).length-(k+1)<(aw zs).length-k;omega),aj.keep ⟨⟨rfl,rfl⟩,⟨rfl,rfl⟩,⟨rfl,rfl⟩,⟨rfl,rfl⟩,⟨rfl,rfl⟩,⟨rfl,rfl⟩,⟨rfl,rfl⟩,⟨aq (by omega),rfl⟩,trivial⟩ ⟨⟨rfl,rfl⟩,⟨rfl,rfl⟩,⟨rfl,rfl⟩,⟨rfl,rfl⟩,⟨rfl,rfl⟩,trivial⟩⟩
end Go.Proofs.YtjapjahfllomkaaGreatDoor
namespace NP
open NQ Go
def pj:Nat->List Bs->List (Bs×D)
 | _,[]=>[]
 | i,a::t=>(a, .int .i64 (i:Nat))::pj (i+1) t
theorem vq(a:Bs):∀(l:List Bs) (i:Nat),cJ a (pj i l)=if l.contains a=true then some (.int .i64 ((i+l.idxOf a:Nat):Int))else none
 | [],i=>rfl
 | b::t,i=>by
  show(if a=b then _ else cJ a (pj (i+1) t))=_
  rw[vq a t (i+1),List.contains_cons,List.idxOf_cons];by_cases h:a=b
  . subst h;simp
  . have h1:(a==b)=false:=by simpa using h
    have h2:(b==a)=false:=by simpa using fun e:b=a=>h e.symm
    rw[if_neg h,h1,h2,aC];by_cases hc:t.contains a=true
    . rw[if_pos hc,if_pos hc];have e:i+1+t.idxOf a=i+(t.idxOf a+1):=by omega
      rw[e];rfl
    . rw[if_neg hc,if_neg hc]
theorem xM{a:Bs}:∀{l:List Bs} {i:Nat},l.contains a=false->cM a (.int .i64 ((i+l.length:Nat):Int)) (pj i l)=pj i (l++[a])
 | [],i,_=>rfl
 | b::t,i,h=>by
  rw[List.contains_cons,Bool.or_eq_false_iff]at h;have hne:¬a=b:=by simpa using h.1
  show(if a=b then _ else(b,_)::cM a _ (pj (i+1) t))=_
  have e:i+(b::t).length=i+1+t.length:=by simp;omega
  rw[if_neg hne,e,xM (l:=t) h.2];rfl
theorem Df{zs:List ag}{f:Nat}{met:List Bs}{s:Bs}(h:met.contains s=true):jI zs (f+1) met s=(met.drop (met.idxOf s),true):=by rw[jI,if_pos h]
theorem AY{zs:List ag}{f:Nat}{met:List Bs}{s:Bs}(h:met.contains s=false)(hl:oB zs s=none):jI zs (f+1) met s=([],false):=by rw[jI,if_neg (by rw[h];simp),hl]
theorem AZ{zs:List ag}{f:Nat}{met:List Bs}{s n:Bs}(h:met.contains s=false)(hl:oB zs s=some n):jI zs (f+1) met s=jI zs f (met++[s]) n:=by rw[jI,if_neg (by rw[h];simp),hl]
theorem Ea{zs:List ag}(hf:∀p∈zs,eH p.zone=true):(gU zs).length<=zs.length*2000:=by
 unfold gU;induction zs with
 | nil=>simp
 | cons p t ih =>
  have h1:=dG (hf p (List.mem_cons_self ..));have h2:=ih fun q hq=>hf q (aW _ hq)
  have h3:∀l:List Signed,(∀s∈l,s.set.data.length<=20)->(l.flatMap fun s=>s.set.data.map (·.text)).length<=20*l.length:=fun l=>by
   induction l with
   | nil=>intro _;simp
   | cons s r ih2 =>
    intro hs;have a1:=hs s (List.mem_cons_self ..);have a2:=ih2 fun x hx=>hs x (aW _ hx)
    rw[List.flatMap_cons,List.length_append,ao,List.length_cons];omega
  have h4:=h3 p.zone.sets fun s hs=>(h1.2 s hs).1
  rw[List.flatMap_cons,List.length_append,List.length_cons];omega
end NP
namespace Go.Proofs.YtjapjahfllomkaaGreatDoor
open NQ Go NP Go.RowKit
theorem Di(l:List Bs)(hl:l.length<=1000000):NQ.Fn cx 126 [.slice 1 (l.map au)] (.d (.slice 1 (l.map au))) []:=by
 refine aP bf mixed Tryz.func126 (by kernel_rfl) rfl (ai rfl) ?_;conv=>whnf
 refine⟨fun h=>?_,?_⟩
 . refine af rfl ?_;rw[List.isEmpty_iff.1 h];rfl
 . conv=>whnf
   refine⟨by(show 0+(l.map au).length<=_;simp;omega),by(show(0+(l.map au).length)*16<=_;simp;omega),?_⟩
   conv=>whnf
   exact af rfl rfl
theorem uG(w:bX)(hF:k7 w)(hv:cO w=true):NQ.Fn cx 72 [.agg (bY w)] (.agg ((db w.zones).map .d)) [] :=
 Cc w (fun p hp=>(bu (ug hv p hp).1).apex) (by have:=hF.zones;omega)
theorem sr(w:bX)(a:Bs)(hF:k7 w)(h:fX w a=0):NQ.Fn cx 91 [.agg (bY w), .str a] (.tuple [.agg ((db w.zones).map .d), .d (.int .i64 0)]) []:=by
 obtain⟨hv,ha,hc⟩:=oY h;have fV:=pX w hF;rw[hv]at fV;have fN:=j6 a;rw[ha]at fN;obtain⟨x,hx⟩:=Option.isSome_iff_exists.1 hc;have hk:=oa w.zones a;rw[hx]at hk;refine aP bf mixed Tryz.func91 (by kernel_rfl) rfl (ai rfl) ?_;conv=>whnf
 (refine⟨_,_,fV,?_⟩;conv=>whnf)
 (refine⟨_,_,fN,?_⟩;conv=>whnf)
 (refine⟨_,_,uG w hF hv,?_⟩;conv=>whnf)
 refine⟨_,hk,?_⟩
 conv=>whnf
 exact af rfl rfl
theorem qH(w:bX)(a:Bs)(hF:k7 w)(h:fX w a ≠ 0):NQ.Fn cx 91 [.agg (bY w), .str a] (.tuple [.agg [.d .nmap, .nil 1], .d (.int .i64 (fX w a))]) []:=by
 have fV:=pX w hF;have fN:=j6 a;unfold fX at h ⊢;refine aP bf mixed Tryz.func91 (by kernel_rfl) rfl (ai rfl) ?_;conv=>whnf
 (refine⟨_,_,fV,?_⟩;conv=>whnf)
 cases hv:cO w with
 | false =>
  rw[if_pos (by rfl)]
  conv=>whnf
  exact r8 (bs:=[]) (by kernel_rfl) (by kernel_rfl) trivial
 | true =>
  conv=>whnf
  (refine⟨_,_,fN,?_⟩;conv=>whnf)
  cases ha:an a with
  | false =>
   rw[if_pos (by rfl)]
   conv=>whnf
   exact r8 (bs:=[]) (by kernel_rfl) (by kernel_rfl) trivial
  | true =>
   rw[hv,ha,if_neg (by simp)]at h;rw[if_neg (by simp)];have hc:bU w.zones a=none:=by
    cases hc:bU w.zones a with
    | none=>rfl
    | some x=>rw[hc]at h;exact absurd rfl h
   have hk:=oa w.zones a;rw[hc]at hk;rw[hc]
   conv=>whnf
   (refine⟨_,_,uG w hF hv,?_⟩;conv=>whnf)
   refine⟨_,hk,?_⟩
   conv=>whnf
   exact r8 (bs:=[]) (by kernel_rfl) (by kernel_rfl) trivial
theorem zH(w:bX)(a:Bs)(hF:k7 w):NQ.Fn cx 38 [.agg (bY w), .str a] (.tuple [.d (.slice 1 ((tG w a).1.map au)), .d (.int .i64 (tG w a).2)]) []:=by
 unfold tG;by_cases h:fX w a=0
 . obtain⟨hv,ha,hc⟩:=oY h;rw[if_pos h];refine aP bf mixed Tryz.func38 (by kernel_rfl) rfl (ai rfl) ?_;conv=>whnf
   (refine⟨_,_,sr w a hF h,?_⟩;conv=>whnf)
   (refine⟨_,_,Cb w.zones a (uB hF hv) ha,?_⟩;conv=>whnf)
   exact af rfl rfl
 . rw[if_neg h];have fB:=qH w a hF h;generalize fX w a=e at *
   have he:(e != 0)=true:=by simpa using h
   refine aP bf mixed Tryz.func38 (by kernel_rfl) rfl (ai rfl) ?_;conv=>whnf
   (refine⟨_,_,fB,?_⟩;conv=>whnf)
   rw[he]
   conv=>whnf
   exact af rfl rfl
set_option maxHeartbeats 1000000 in
theorem y9(w:bX)(s0:Bs)(hF:k7 w)(hz:w.zones.length<=20):NQ.Fn cx 67 [.agg (bY w), .str s0] (.tuple [.d (.slice 1 ((qz w s0).1.map au)), .d (.bool (qz w s0).2.1), .d (.int .i64 (qz w s0).2.2)]) []:=by
 have fV:=pX w hF;have fN:=j6 s0;unfold qz;refine df (fun | 8=>[9] | _=>[]) bf mixed Tryz.func67 (by kernel_rfl) rfl (ai rfl) ?_
 conv=>whnf
 (refine⟨_,_,fV,?_⟩;conv=>whnf)
 cases hv:cO w with
 | false =>
  rw[if_pos (by rfl)]
  conv=>whnf
  exact af rfl rfl
 | true =>
 conv=>whnf
 (refine⟨_,_,fN,?_⟩;conv=>whnf)
 cases hs0:an s0 with
 | false =>
  rw[if_pos (by rfl)]
  conv=>whnf
  exact af rfl rfl
 | true =>
 rw[if_neg (by simp)];have hg:=uB hF hv;have htl:=Ea (zs:=w.zones) hF.few
 conv=>whnf
 (refine⟨_,_,uG w hF hv,?_⟩;conv=>whnf)
 refine⟨Nat×List Bs×Bs,fun x=>⟨[(1, .d (.str x.2.2)),(7, .ptr 7 0),(8, .omap 24),(9, .own 9)],[(7, .box ((db w.zones).map .d)),(24, .smap (pj 0 x.2.1)),(9, .row 9 1 (x.2.1.map au))]⟩,
  fun x=>x.1+x.2.1.length=(gU w.zones).length+2/\x.2.1.Nodup/\an x.2.2=true/\(∀n∈x.2.1,n=s0\/n∈gU w.zones)/\(x.2.2=s0\/x.2.2∈gU w.zones)/\jI w.zones x.1 x.2.1 x.2.2=A0 w.zones s0,fun x=>x.1,
  ⟨((gU w.zones).length+2,[],s0),⟨rfl,List.nodup_nil,hs0,(fun n h=>by cases h), .inl rfl,rfl⟩,(aj.jR 9 9 1 9 1 rfl rfl (by decide)).trans (aj.keep ⟨⟨rfl,rfl⟩,⟨rfl,rfl⟩,⟨rfl,rfl⟩,⟨rfl,rfl⟩,trivial⟩ ⟨⟨rfl,rfl⟩,⟨rfl,rfl⟩,⟨rfl,rfl⟩,trivial⟩)⟩,fun⟨f,met,s⟩ ⟨hf,hnd,hsv,hin,hs,hinv⟩=>?_⟩
 dsimp only at hf hnd hsv hin hs hinv ⊢;have hml:met.length<=(gU w.zones).length+1:=by
  have:=jC hnd (m:=s0::gU w.zones) fun n hn=>by
   rcases hin n hn with e | e
   . exact List.mem_cons.2 (.inl e)
   . exact aW _ e
  simpa using this
 obtain⟨f,rfl⟩:∃g,f=g+1:=⟨f-1,by omega⟩
 conv=>whnf
 rw[vq];cases hm:met.contains s with
 | true =>
  rw[Df hm]at hinv;have hix:met.idxOf s<=met.length:=List.idxOf_le_length
  conv=>whnf
  refine⟨by(show(0:Int)<=((0+met.idxOf s:Nat):Int));exact az _,by(show((0+met.idxOf s:Nat):Int)<=((met.map au).length:Int));rw[ao];omega,Int.le_refl _,?_⟩
  conv=>whnf
  have e:(met.map au).drop ((0+met.idxOf s:Nat):Int).toNat=(met.drop (met.idxOf s)).map au:=by
   rw[Nat.zero_add,Int.toNat_natCast,List.map_drop]
  rw[e];have e2:((met.drop (met.idxOf s)).map au).take (((met.map au).length:Int).toNat-((0+met.idxOf s:Nat):Int).toNat)=(met.drop (met.idxOf s)).map au :=
   List.take_of_length_le (by rw[ao,List.length_drop,ao];omega)
  rw[e2]
  (refine⟨_,_,Di (met.drop (met.idxOf s)) (by rw[List.length_drop];omega),?_⟩;conv=>whnf)
  refine af rfl ?_;rw[<- hinv];rfl
 | false =>
  conv=>whnf
  refine⟨by(show(met.map au).length+1<=_);simp;omega,by(show((met.map au).length+1)*16<=_);simp;omega,?_⟩
  conv=>whnf
  (refine⟨_,_,FO w.zones ⟨s,1⟩ hg (IZ hsv),?_⟩;conv=>whnf)
  cases hl:oB w.zones s with
  | none =>
   rw[AY hm hl]at hinv;cases hok:(gL w.zones ⟨s,1⟩).2 with
   | false =>
    conv=>whnf
    refine af rfl ?_;rw[<- hinv];rfl
   | true =>
    have hk:((gL w.zones ⟨s,1⟩).1.kind != 3)=true:=by
     unfold oB at hl;rw[hok,aF]at hl;split at hl
     . cases hl
     . rename_i h;simpa [bne] using h
    conv=>whnf
    rw[hk]
    conv=>whnf
    refine af rfl ?_;rw[<- hinv];rfl
  | some n =>
   rw[AZ hm hl]at hinv;obtain⟨hnv,hnt,a,t,R,d,h1,h2,h3,h4,h5⟩:=Na hg hsv hl;rw[h1];have hk:(a.kind != 3)=false:=by rw[h2];rfl
   conv=>whnf
   rw[hk]
   conv=>whnf
   rw[h3];refine⟨by decide,ay t,rfl,?_⟩
   conv=>whnf
   refine⟨by decide,cB d,(by rw[h4];rfl:(t.set.data.map cB)[(0:Int).toNat]? =some (cB d)),?_⟩
   conv=>whnf
   have hsn:s ∉ met:=fun e=>by rw[cr.2 e]at hm;cases hm
   refine⟨(f,met++[s],n),⟨by simp;omega,?_,hnv,fun x hx=>?_, .inr hnt,hinv⟩,by(show f<f+1;omega),aj.keep ⟨⟨by rw[h5];rfl,rfl⟩,⟨rfl,rfl⟩,⟨rfl,rfl⟩,⟨rfl,rfl⟩,trivial⟩ ⟨⟨rfl,rfl⟩,⟨?_,rfl⟩,⟨?_,rfl⟩,trivial⟩⟩
   . rw[List.nodup_append];exact⟨hnd,by simp,fun x hx y hy=>by rw[List.mem_singleton]at hy;subst hy;exact fun e=>hsn (e ▸ hx)⟩
   . rcases List.mem_append.1 hx with hx | hx
     . exact hin x hx
     . rw[List.mem_singleton]at hx;rw[hx];exact hs
   . have:=xM (i:=0) hm;rw[Nat.zero_add]at this;rw[<- this,show met.length=(met.map au).length from(ao _).symm];rfl
   . rw[List.map_append];rfl
set_option maxHeartbeats 2000000 in
theorem uo(w:bX)(hF:k7 w):NQ.Fn cx 28 [.agg (bY w)] (.tuple [.d (.slice 1 ((pt w).1.map au)), .d (.int .i64 (pt w).2)]) []:=by
 show NQ.Fn cxZ _ _ _ _
 have fV:=pX w hF;unfold pt;refine s9 (fun | 10=>[19] | 12=>[44444] | 13=>[88888] | _=>[]) tyZ qN Tryz.func28 (by kernel_rfl) rfl (ai rfl) ?_
 conv=>whnf
 (refine⟨_,_,fV,?_⟩;conv=>whnf)
 cases hv:cO w with
 | false =>
  rw[if_neg (by simp)]
  conv=>whnf
  exact af rfl rfl
 | true =>
 rw[if_pos rfl];have hg:=uB hF hv;have hzl:=hF.zones;have hal:=jy w.zones;have hav:∀a∈aw w.zones,an a=true:=fun a ha=>iV hg ((gI w.zones a).2 (iy.1 ha))
 conv=>whnf
 (refine⟨_,_,uG w hF hv,?_⟩;conv=>whnf)
 refine ⟨Nat, fun k => ⟨[(4, .ptr 4 0), (5, .ptr 5 0), (21, .d (.slice 1 ((aw w.zones).map au))), (22, .d (.int .i64 (((aw w.zones).map au).length : Int))), (23, .d (.int .i64 k))],
     [(4, .box ((db w.zones).map .d)),(5, .box [.omap 19]),(19, .smap (my w.zones ((aw w.zones).take k)))]⟩,fun k=>k<=(aw w.zones).length,fun k=>(aw w.zones).length-k,
  ⟨0,Nat.zero_le _,aj.keep ⟨⟨rfl,rfl⟩,⟨rfl,rfl⟩,⟨rfl,rfl⟩,⟨rfl,rfl⟩,⟨rfl,rfl⟩,trivial⟩ ⟨⟨rfl,rfl⟩,⟨rfl,rfl⟩,⟨rfl,rfl⟩,trivial⟩⟩,fun k hk=>?_⟩
 dsimp only at hk ⊢
 conv=>whnf
 refine ae (fun h1=>?_) (fun h1=>?_) <;> (rw[h1];conv=>whnf)
 . have hlt:k<(aw w.zones).length:=by simpa using h1
   obtain⟨a,ha⟩:∃a,(aw w.zones)[k]? =some a:=⟨_,ah hlt⟩
   have ham:=ar ha;have hnew:((aw w.zones).take k).contains a=false:=by
    rw[Bool.eq_false_iff];intro e;obtain⟨j,hj⟩:=cd (cr.1 e);have hjl:=(av.1 hj).1;rw[List.length_take]at hjl;rw[List.getElem?_take_of_lt (by omega)]at hj;have:=tI (sH w.zones) hj ha;omega
   refine⟨az k,au a,aT ha,?_⟩
   conv=>whnf
   (refine⟨(by kernel_rfl:bF _ _=true),?_⟩;conv=>whnf)
   (refine⟨_,_,Nw w.zones a hg (hav a ham),?_⟩;conv=>whnf)
   refine⟨k+1,hlt,by(show(aw w.zones).length-(k+1)<(aw w.zones).length-k;omega),aj.keep ⟨⟨rfl,rfl⟩,⟨rfl,rfl⟩,⟨rfl,rfl⟩,⟨rfl,rfl⟩,⟨aq (by omega),rfl⟩,trivial⟩ ⟨⟨rfl,rfl⟩,⟨rfl,rfl⟩,⟨?_,rfl⟩,trivial⟩⟩;rw[bn ha, <- xT w.zones hnew];rfl
 . obtain rfl:k=(aw w.zones).length:=by simp at h1;omega
   rw[List.take_length];refine⟨⟨[(4, .ptr 100004 0),(5, .ptr 100005 0),(8, .ptr 100008 0),(9, .ptr 100009 0)],hG w.zones []⟩,(iJ.ren [4,5,8,9] (by kernel_rfl)).trans (aj.zero (aj.keep ⟨⟨(by kernel_rfl),(by kernel_rfl)⟩,⟨(by kernel_rfl),(by kernel_rfl)⟩,⟨(by kernel_rfl),(by kernel_rfl)⟩,⟨(by kernel_rfl),(by kernel_rfl)⟩,trivial⟩ ⟨⟨(by kernel_rfl),(by kernel_rfl)⟩,⟨(by kernel_rfl),(by kernel_rfl)⟩,⟨(by kernel_rfl),(by kernel_rfl)⟩,⟨(by kernel_rfl),(by kernel_rfl)⟩,⟨(by kernel_rfl),(by kernel_rfl)⟩,trivial⟩)),?_⟩
   conv=>whnf
   refine⟨List Bs,fun r=>⟨[(4, .ptr 100004 0),(8, .ptr 100008 0),(10, .fn 75 [] [.ptr 100004 0, .ptr 100008 0, .ptr 100005 0, .ptr 100009 0])],hG w.zones r⟩,
    fun r=>NP.Reach w.zones r/\ ∃k,mw w.zones k r=dN w.zones/\(aw w.zones).length<k+r.length,fun r=>(aw w.zones).length+1-r.length,
    ⟨[],⟨NP.Reach.nil _,(aw w.zones).length+1,rfl,by simp⟩,aj.keep ⟨⟨rfl,rfl⟩,⟨rfl,rfl⟩,⟨rfl,rfl⟩,trivial⟩ ⟨⟨rfl,rfl⟩,⟨rfl,rfl⟩,⟨rfl,rfl⟩,⟨rfl,rfl⟩,⟨rfl,rfl⟩,trivial⟩⟩,fun r ⟨hR,k,hk,hkl⟩=>?_⟩
   conv=>whnf
   refine⟨[],_,_,KQ w.zones r hg hzl,⟨⟨by kernel_rfl,by kernel_rfl⟩,by kernel_rfl,by kernel_rfl,by kernel_rfl⟩,?_⟩
   conv=>whnf
   refine ae (fun h2=>?_) (fun h2=>?_) <;> (rw[h2];conv=>whnf)
   . have hlt:r.length<(ff w.zones r).length:=of_decide_eq_true h2;have hlen:=hR.next.len
     have hlen' :=hR.len;obtain⟨k,rfl⟩:∃j,k=j+1:=⟨k-1,by
      have:0<k:=by
       rcases Nat.eq_zero_or_pos k with e | e
       . omega
       . exact e
      omega⟩
     exact⟨ff w.zones r,⟨hR.next,k,hk,by omega⟩,by(show(aw w.zones).length+1-(ff w.zones r).length<(aw w.zones).length+1-r.length;omega),aj.keep ⟨⟨rfl,rfl⟩,⟨rfl,rfl⟩,⟨rfl,rfl⟩,trivial⟩ ⟨⟨rfl,rfl⟩,⟨rfl,rfl⟩,⟨rfl,rfl⟩,⟨rfl,rfl⟩,⟨rfl,rfl⟩,trivial⟩⟩
   . have hnot:¬r.length<(ff w.zones r).length:=of_decide_eq_false h2;have hle:r.length<=(ff w.zones r).length:=pI w.zones (aw w.zones) r;have hfix:ff w.zones r=r:=(pH (by show(ff w.zones r).length=r.length;omega)).1;rw[rW hfix]at hk;rw[hfix,hk];have hfl:∀j,(((aw w.zones).take j).filter fun a=> !(dN w.zones).contains a).length<=1000:=fun j=>by
      have:=List.length_filter_le (fun a=> !(dN w.zones).contains a) ((aw w.zones).take j);have:=List.length_take_le' j (aw w.zones);omega
     refine ⟨Nat, fun j => ⟨[(8, .ptr 100008 0), (11, .own 11), (39, .d (.slice 1 ((aw w.zones).map au))), (40, .d (.int .i64 (((aw w.zones).map au).length : Int))), (41, .d (.int .i64 j))],
         [(100008, .box [.omap 33]),(33, .smap (ga (dN w.zones))),(11, .row 9 1 ((((aw w.zones).take j).filter fun a=> !(dN w.zones).contains a).map au))]⟩,fun j=>j<=(aw w.zones).length,fun j=>(aw w.zones).length-j,
      ⟨0,Nat.zero_le _,(aj.jR 11 11 1 9 1 rfl rfl (by decide)).trans (aj.keep ⟨⟨rfl,rfl⟩,⟨rfl,rfl⟩,⟨rfl,rfl⟩,⟨rfl,rfl⟩,⟨rfl,rfl⟩,trivial⟩ ⟨⟨rfl,rfl⟩,⟨rfl,rfl⟩,⟨rfl,rfl⟩,trivial⟩)⟩,fun j hj=>?_⟩
     dsimp only at hj ⊢
     conv=>whnf
     refine ae (fun h3=>?_) (fun h3=>?_) <;> (rw[h3];conv=>whnf)
     . have hlt:j<(aw w.zones).length:=by simpa using h3
       obtain⟨a,ha⟩:∃a,(aw w.zones)[j]? =some a:=⟨_,ah hlt⟩
       have hf:=hfl j;refine⟨az j,au a,aT ha,?_⟩
       conv=>whnf
       rw[gD];cases hc:(dN w.zones).contains a with
       | true =>
        conv=>whnf
        refine⟨j+1,hlt,by(show(aw w.zones).length-(j+1)<(aw w.zones).length-j;omega),aj.keep ⟨⟨rfl,rfl⟩,⟨rfl,rfl⟩,⟨rfl,rfl⟩,⟨rfl,rfl⟩,⟨aq (by omega),rfl⟩,trivial⟩ ⟨⟨rfl,rfl⟩,⟨rfl,rfl⟩,⟨?_,rfl⟩,trivial⟩⟩;rw[bn ha,List.filter_append,List.filter_cons_of_neg (by rw[hc];simp),List.filter_nil,List.append_nil];rfl
       | false =>
        conv=>whnf
        refine⟨by(show((((aw w.zones).take j).filter fun a=> !(dN w.zones).contains a).map au).length+1<=_);rw[ao];omega,by(show(((((aw w.zones).take j).filter fun a=> !(dN w.zones).contains a).map au).length+1)*16<=_);rw[ao];omega,?_⟩
        conv=>whnf
        refine⟨j+1,hlt,by(show(aw w.zones).length-(j+1)<(aw w.zones).length-j;omega),aj.keep ⟨⟨rfl,rfl⟩,⟨rfl,rfl⟩,⟨rfl,rfl⟩,⟨rfl,rfl⟩,⟨aq (by omega),rfl⟩,trivial⟩ ⟨⟨rfl,rfl⟩,⟨rfl,rfl⟩,⟨?_,rfl⟩,trivial⟩⟩;rw[bn ha,List.filter_append,List.filter_cons_of_pos (by rw[hc];rfl),List.filter_nil,List.map_append];rfl
     . obtain rfl:j=(aw w.zones).length:=by simp at h3;omega
       rw[List.take_length];exact af rfl rfl
end Go.Proofs.YtjapjahfllomkaaGreatDoor
namespace NP
open NQ Go
def beM(be:List (Bs×Bs)):List (Bs×D):=be.map fun p=>(p.1, .str p.2)
theorem vU(n:Bs):∀be:List (Bs×Bs),cJ n (beM be)=if mz be n=true then some (.str (oD be n))else none
 | []=>rfl
 | (b,v)::t=>by
  show(if n=b then _ else cJ n (beM t))=_
  rw[vU n t];unfold mz oD;rw[List.any_cons,List.find?_cons];by_cases h:n=b
  . subst h;simp
  . have:(b==n)=false:=by simpa using fun e:b=n=>h e.symm
    rw[if_neg h,this,aC]
theorem Eu{n a:Bs}:∀{be:List (Bs×Bs)},mz be n=false->cM n (.str a) (beM be)=beM (be++[(n,a)])
 | [],_=>rfl
 | (b,v)::t,h=>by
  have h:((b==n)||mz t n)=false:=h;rw[Bool.or_eq_false_iff]at h;have hne:¬n=b:=fun e=>by have:=h.1;rw[e]at this;simp at this
  show(if n=b then _ else(b,_)::cM n _ (beM t))=_
  rw[if_neg hne,Eu h.2];rfl
theorem pS{zone a:Bs}:∀(t qu:List Bs) (be:List (Bs×Bs)),be.length<=(dm zone a t qu be).2.2.length/\qu.length<=(dm zone a t qu be).2.1.length
 | [],qu,be=>⟨Nat.le_refl _,Nat.le_refl _⟩
 | n::t,qu,be=>by
  unfold dm;split
  . exact⟨Nat.le_refl _,Nat.le_refl _⟩
  . split
    . exact pS t qu be
    . have:=pS (zone:=zone) (a:=a) t (qu++[n]) (be++[(n,a)]);simp at this;omega
theorem J0{zs:List ag}(hg:dB zs){zone a:Bs}(hv:an zone=true){f:Nat}{P qu:List Bs}{be:List (Bs×Bs)}{ds:List Nat}(h:iN zs zone P (a::qu) be ds)(hf:2*((aw zs).length-be.length)+(a::qu).length<f+1) :
 an a=true/\(∀n∈bI zs a,n∈aw zs)/\(dm zone a (bI zs a) qu be).2.2.length<=(aw zs).length/\(dm zone a (bI zs a) qu be).2.1.length<=(aw zs).length+1 /\
  ((dm zone a (bI zs a) qu be).1=true-> ∃ds',iN zs zone P (a::(dm zone a (bI zs a) qu be).2.1) (dm zone a (bI zs a) qu be).2.2 ds') /\
  ((dm zone a (bI zs a) qu be).1=false-> ∃ds',iN zs zone (P++[a]) (dm zone a (bI zs a) qu be).2.1 (dm zone a (bI zs a) qu be).2.2 ds' /\2*((aw zs).length-(dm zone a (bI zs a) qu be).2.2.length)+(dm zone a (bI zs a) qu be).2.1.length<f):=by
 have ham:a∈zone::be.map (·.1):=by rw[<- h.all];simp
 have hav:an a=true:=by
  rcases List.mem_cons.1 ham with rfl | hm
  . exact hv
  . obtain⟨p,hp,rfl⟩:=List.mem_map.1 hm;exact iV hg ((gI zs _).2 (iy.1 (h.keys p hp)))
 have hkeys:∀n∈bI zs a,n∈aw zs:=fun n hn=>iy.2 ((gI zs n).1 (IP hg hav n hn))
 obtain⟨ds',i1,i2,i3,i4,i5,i6⟩:=yS hkeys (bI zs a) qu be ds h fun n hn=>hn
 have h1:=i1.Bb;have h2:=h.Bb;have h3:=pS (zone:=zone) (a:=a) (bI zs a) qu be;have h4:=congrArg List.length i1.all;simp only[List.length_append,List.length_cons,ao]at h4;refine⟨hav,hkeys,h1,by omega,fun _=>⟨ds',i1⟩,fun hs=>?_⟩;obtain⟨j1,j2⟩:=i3 hs;refine⟨ds',i1.next j1 j2,?_⟩;simp at hf;omega
theorem IX{zs:List ag}{zone last:Bs}{P Q:List Bs}{be:List (Bs×Bs)}{ds:List Nat}(h:iN zs zone P Q be ds){i:Nat}(hi:(zone::be.map (·.1))[i]? =some last)(hz:last ≠ zone) :
 mz be last=true/\ ∃i',i' <i/\(zone::be.map (·.1))[i']? =some (oD be last):=by
 obtain⟨j,rfl⟩:∃j,i=j+1:=by
  rcases i with _ | j
  . cases hi;exact absurd rfl hz
  . exact⟨j,rfl⟩
 have hi' :(be.map (·.1))[j]? =some last:=by simpa using hi
 refine⟨wJ.2 (ar hi'),?_⟩;rw[aV]at hi';cases hb:be[j]? with
 | none=>rw[hb]at hi';cases hi'
 | some pr =>
  obtain⟨n,a⟩:=pr;rw[hb]at hi';have:n=last:=by simpa using hi'
  subst this;obtain⟨hm,i',d,h1,h2,h3,h4⟩:=h.par j n a hb;rw[Ns h hb];exact⟨i',by omega,h2⟩
end NP
namespace Go.Proofs.YtjapjahfllomkaaGreatDoor
open NQ Go NP Go.RowKit
noncomputable def cxQ:Cx:={cx with chg:=fun g=>match Nat.beq g 130 with | true=>2 | false=>cx.chg g}
theorem tyQ:bB cxQ:=bf
theorem IK:cxQ.P.follows .mixedOrders=true:=mixed
def inC:Code->Code
 | .scope c=>c
 | c=>c
def fzQ:Nat->List Nat
 | 9=>[88888]
 | 18=>[88888]
 | 20=>[55555]
 | _=>[]
theorem IE(zs:List ag)(zone:Bs)(x:Bs×List (Bs×Bs)){P Q:List Bs}{ds:List Nat}(h:iN zs zone P Q x.2 ds)(hx:x.1∈zone::x.2.map (·.1))(hl:x.2.length<=10000)(st:St)
 (hs:aj cxQ st ⟨[(1, .d (.str zone)),(9, .omap 28),(10, .d (.str x.1)),(11, .d (.bool true))],[(28, .smap (beM x.2))]⟩) :
 vc cxQ Tryz.f69.ntmps fzQ (ny 7 (inC (ny 1 ((Tryz.f69.body).getD .skip)))) (fnQ cxQ Tryz.f69.results.toList (.tuple [.d (.slice 1 ((x.1::pQ x.2 zone (x.2.length+1) x.1).reverse.map au)), .d (.bool true), .d (.int .i64 0)]) []) st:=by
 obtain⟨last0,be⟩:=x;dsimp only at h hx hl hs ⊢;obtain⟨i0,hi0⟩:=cd hx;have hi0l:i0<be.length+1:=by have:=(av.1 hi0).1;simpa using this
 conv=>whnf
 refine⟨_,hs,?_⟩
 conv=>whnf
 refine⟨Nat×Bs×List Bs,fun y=>⟨[(1, .d (.str zone)),(9, .omap 28),(10, .d (.str y.2.1)),(18, .own 70)],[(28, .smap (beM be)),(70, .row 9 1 (y.2.2.map au))]⟩,
  fun y=>y.2.2++pQ be zone y.1 y.2.1=last0::pQ be zone (be.length+1) last0/\(∃i,i<y.1/\(zone::be.map (·.1))[i]? =some y.2.1)/\y.1+y.2.2.length=be.length+2,fun y=>y.1,
  ⟨(be.length+1,last0,[last0]),⟨rfl,⟨i0,hi0l,hi0⟩,rfl⟩,aj.keep ⟨⟨rfl,rfl⟩,⟨rfl,rfl⟩,⟨rfl,rfl⟩,⟨rfl,rfl⟩,trivial⟩ ⟨⟨rfl,rfl⟩,⟨rfl,rfl⟩,trivial⟩⟩,fun⟨f,last,l⟩ ⟨hinv,⟨i,hi,hil⟩,hfl⟩=>?_⟩
 dsimp only at hinv hi hil hfl ⊢;obtain⟨f,rfl⟩:∃g,f=g+1:=⟨f-1,by omega⟩
 rw[pQ]at hinv
 conv=>whnf
 refine ae (fun h1=>?_) (fun h1=>?_) <;> (rw[h1];conv=>whnf)
 . have hne:last ≠ zone:=by simpa using h1
   rw[if_neg hne]at hinv;obtain⟨p1,i',p2,p3⟩:=IX h hil hne;rw[vU,p1]
   conv=>whnf
   refine⟨by(show(l.map au).length+1<=_);simp;omega,by(show((l.map au).length+1)*16<=_);simp;omega,?_⟩
   conv=>whnf
   refine⟨(f,oD be last,l++[oD be last]),⟨by rw[<- hinv];simp,⟨i',by omega,p3⟩,by simp;omega⟩,by(show f<f+1;omega),aj.keep ⟨⟨rfl,rfl⟩,⟨rfl,rfl⟩,⟨rfl,rfl⟩,⟨rfl,rfl⟩,trivial⟩ ⟨⟨rfl,rfl⟩,⟨?_,rfl⟩,trivial⟩⟩;rw[List.map_append];rfl
 . have hz:last=zone:=by simpa using h1
   rw[if_pos hz,List.append_nil]at hinv;rw[<- hinv];refine⟨_,iw (cx' :=cxQ) rfl rfl (D2 l (by omega) _),?_⟩
   conv=>whnf
   exact af rfl rfl
set_option maxHeartbeats 2000000 in
theorem IF(w:bX)(zone:Bs)(hF:k7 w):NQ.Fn cx 69 [.agg (bY w), .str zone] (.tuple [.d (.slice 1 ((tA w zone).1.map au)), .d (.bool (tA w zone).2.1), .d (.int .i64 (tA w zone).2.2)]) []:=by
 show NQ.Fn cxQ _ _ _ _
 unfold tA;by_cases h0:fX w zone=0
 case neg =>
  rw[if_neg h0];have fB:=qH w zone hF h0;generalize fX w zone=e at *
  have he:(e != 0)=true:=by simpa using h0
  refine df fzQ tyQ IK Tryz.func69 (by kernel_rfl) rfl (ai rfl) ?_
  conv=>whnf
  (refine⟨_,_,fB,?_⟩;conv=>whnf)
  rw[he]
  conv=>whnf
  exact af rfl rfl
 obtain⟨hv,hzv,hzc⟩:=oY h0;rw[if_pos h0];have hg:=uB hF hv;have hal:=jy w.zones;have hzl:=hF.zones;have hend:=IE w.zones zone;have hF0:B6 w.zones zone=match yn w.zones zone (2*(aw w.zones).length+2) [zone] []with | none=>[] | some x=>(x.1::pQ x.2 zone (x.2.length+1) x.1).reverse:=rfl
 rw[hF0];refine df fzQ tyQ IK Tryz.func69 (by kernel_rfl) rfl (ai rfl) ?_
 conv=>whnf
 (refine⟨_,_,sr w zone hF h0,?_⟩;conv=>whnf)
 refine⟨Nat×List Bs×List (Bs×Bs),fun x=>⟨[(1, .d (.str zone)),(7, .ptr 7 0),(9, .omap 28),(10, .d (.str [])),(11, .d (.bool false)),(12, .own 30)],[(7, .box ((db w.zones).map .d)),(28, .smap (beM x.2.2)),(30, .tail 9 1 (x.2.1.map au))]⟩,
  fun x=>(∃P ds,iN w.zones zone P x.2.1 x.2.2 ds)/\2*((aw w.zones).length-x.2.2.length)+x.2.1.length<x.1/\yn w.zones zone x.1 x.2.1 x.2.2=yn w.zones zone (2*(aw w.zones).length+2) [zone] [],fun x=>x.1,
  ⟨(2*(aw w.zones).length+2,[zone],[]),⟨⟨[],[0],iN.start _ _⟩,by simp,rfl⟩,(aj.tail 30 9 1 [au zone] (by kernel_rfl)).trans (aj.keep ⟨⟨rfl,rfl⟩,⟨rfl,rfl⟩,⟨rfl,rfl⟩,⟨rfl,rfl⟩,⟨rfl,rfl⟩,⟨rfl,rfl⟩,trivial⟩ ⟨⟨rfl,rfl⟩,⟨rfl,rfl⟩,⟨rfl,rfl⟩,trivial⟩)⟩,fun⟨f,qu,be⟩ ⟨⟨P,ds,hB⟩,hf,hinv⟩=>?_⟩
 dsimp only at hB hf hinv ⊢
 conv=>whnf
 cases qu with
 | nil =>
  obtain⟨f,rfl⟩:∃g,f=g+1:=⟨f-1,by omega⟩
  rw[<- hinv]
  conv=>whnf
  refine⟨_,aj.refl _,?_⟩
  conv=>whnf
  exact af rfl rfl
 | cons a qu =>
  obtain⟨f,rfl⟩:∃g,f=g+1:=⟨f-1,by omega⟩
  obtain⟨hav,hkeys,b1,b2,hyes,hno⟩:=J0 hg hzv hB hf;have hnl:(bI w.zones a).length<=(aw w.zones).length:=jC (DP w.zones a) hkeys;rw[yn]at hinv;have hpos:decide ((((a::qu).map au).length:Int)>0)=true:=decide_eq_true (by simp);rw[show decide ((((a::qu).map au).length:Int)>0)=true from hpos]
  conv=>whnf
  refine⟨by decide,by(show 0<((a::qu).map au).length);simp,?_⟩
  conv=>whnf
  refine⟨au a,rfl,?_⟩
  conv=>whnf
  refine⟨⟨by decide,by(show 1<=((a::qu).map au).length);simp⟩,?_⟩
  conv=>whnf
  (refine⟨_,_,Cb w.zones a hg hav,?_⟩;conv=>whnf)
  generalize hS:dm zone a (bI w.zones a) qu be=S at *
  refine⟨Nat×List Bs×List (Bs×Bs),fun x=>⟨[(1, .d (.str zone)),(7, .ptr 7 0),(9, .omap 28),(10, .d (.str [])),(11, .d (.bool false)),(12, .own 30),(13, .d (.str a)),(41, .d (.slice 1 ((bI w.zones a).map au))),(42, .d (.int .i64 (((bI w.zones a).map au).length:Int))),(43, .d (.int .i64 x.1))],[(7, .box ((db w.zones).map .d)),(28, .smap (beM x.2.2)),(30, .tail 9 1 (x.2.1.map au))]⟩,
   fun x=>x.1<=(bI w.zones a).length/\dm zone a ((bI w.zones a).drop x.1) x.2.1 x.2.2=S,fun x=>(bI w.zones a).length-x.1,
   ⟨(0,qu,be),⟨Nat.zero_le _,hS⟩,aj.keep ⟨⟨rfl,rfl⟩,⟨rfl,rfl⟩,⟨rfl,rfl⟩,⟨rfl,rfl⟩,⟨rfl,rfl⟩,⟨rfl,rfl⟩,⟨rfl,rfl⟩,⟨rfl,rfl⟩,⟨rfl,rfl⟩,⟨rfl,rfl⟩,trivial⟩ ⟨⟨rfl,rfl⟩,⟨rfl,rfl⟩,⟨rfl,rfl⟩,trivial⟩⟩,fun⟨k,qu',be'⟩ ⟨hk,hsc⟩=>?_⟩
  dsimp only at hk hsc ⊢;have hgr:=pS (zone:=zone) (a:=a) ((bI w.zones a).drop k) qu' be';rw[hsc]at hgr
  conv=>whnf
  refine ae (fun h1=>?_) (fun h1=>?_) <;> (rw[h1];conv=>whnf)
  . have hlt:k<(bI w.zones a).length:=by simpa using h1
    obtain⟨n,hn⟩:∃n,(bI w.zones a)[k]? =some n:=⟨_,ah hlt⟩
    rw[drop_cons hn,dm]at hsc;refine⟨az k,au n,aT hn,?_⟩
    conv=>whnf
    refine ae (fun h2=>?_) (fun h2=>?_) <;> (rw[h2];conv=>whnf)
    . have hnz:n=zone:=by simpa using h2
      rw[if_pos hnz]at hsc;rw[<- hsc]at hyes hinv;obtain⟨ds',hB'⟩:=hyes rfl;rw[if_pos rfl]at hinv;rw[<- hinv];have hlen:=hB'.Bb;have hpl:decide (0<(a::pQ be' zone (be'.length+1) a).reverse.length)=true:=decide_eq_true (by simp);dsimp only;rw[hpl];exact hend (a,be') hB' (by rw[<- hB'.all];simp) (by show be'.length<=10000;omega) _ (aj.keep ⟨⟨rfl,rfl⟩,⟨rfl,rfl⟩,⟨rfl,rfl⟩,⟨rfl,rfl⟩,trivial⟩ ⟨⟨rfl,rfl⟩,trivial⟩)
    . have hnz:n ≠ zone:=by simpa using h2
      rw[if_neg hnz]at hsc;rw[vU];cases hse:mz be' n with
      | true =>
       rw[if_pos hse]at hsc
       conv=>whnf
       exact⟨(k+1,qu',be'),⟨hlt,hsc⟩,by(show(bI w.zones a).length-(k+1)<(bI w.zones a).length-k;omega),aj.keep ⟨⟨rfl,rfl⟩,⟨rfl,rfl⟩,⟨rfl,rfl⟩,⟨rfl,rfl⟩,⟨rfl,rfl⟩,⟨rfl,rfl⟩,⟨rfl,rfl⟩,⟨rfl,rfl⟩,⟨rfl,rfl⟩,⟨aq (by omega),rfl⟩,trivial⟩ ⟨⟨rfl,rfl⟩,⟨rfl,rfl⟩,⟨rfl,rfl⟩,trivial⟩⟩
      | false =>
       rw[if_neg (by rw[hse];simp)]at hsc
       conv=>whnf
       refine⟨by(show(qu'.map au).length+1<=_);simp;omega,by(show((qu'.map au).length+1)*16<=_);simp;omega,?_⟩
       conv=>whnf
       refine⟨(k+1,qu' ++[n],be' ++[(n,a)]),⟨hlt,hsc⟩,by(show(bI w.zones a).length-(k+1)<(bI w.zones a).length-k;omega),aj.keep ⟨⟨rfl,rfl⟩,⟨rfl,rfl⟩,⟨rfl,rfl⟩,⟨rfl,rfl⟩,⟨rfl,rfl⟩,⟨rfl,rfl⟩,⟨rfl,rfl⟩,⟨rfl,rfl⟩,⟨rfl,rfl⟩,⟨aq (by omega),rfl⟩,trivial⟩ ⟨⟨rfl,rfl⟩,⟨?_,rfl⟩,⟨?_,rfl⟩,trivial⟩⟩
       . rw[<- Eu hse];rfl
       . rw[List.map_append];rfl
  . obtain rfl:k=(bI w.zones a).length:=by simp at h1;omega
    rw[List.drop_length]at hsc;rw[<- hsc]at hno hinv;obtain⟨ds',hB',hf'⟩:=hno rfl;rw[if_neg (by simp[dm])]at hinv;exact⟨(f,qu',be'),⟨⟨P++[a],ds',hB'⟩,hf',hinv⟩,by(show f<f+1;omega),aj.keep ⟨⟨rfl,rfl⟩,⟨rfl,rfl⟩,⟨rfl,rfl⟩,⟨rfl,rfl⟩,⟨rfl,rfl⟩,⟨rfl,rfl⟩,trivial⟩ ⟨⟨rfl,rfl⟩,⟨rfl,rfl⟩,⟨rfl,rfl⟩,trivial⟩⟩
end Go.Proofs.YtjapjahfllomkaaGreatDoor
namespace NP
open NQ Go
def uP(n:Bs)(t:Int)(to:Bs):gi:=⟨n,t,0,[tx to]⟩
def Oo(a:Bs):gi:=⟨a,4,0,[⟨[],1,0⟩]⟩
def gY(a host:Bs)(l:List gi):List gi:=uP a 2 host::Oo a::l
def sgn(s:gi):Signed:=⟨s,[]⟩
def OQ(a host:Bs)(l:List gi):aS:=⟨a,(gY a host l).map sgn⟩
theorem zl{w:bX}(h:pE w=true):k7 w/\w.hosts.length<=70/\w.zones.length<=12:=by
 unfold pE at h;simp only[aR,decide_eq_true_eq]at h;obtain⟨h1,h2,_,_⟩:=KB h.1;exact⟨h1,h2,by omega⟩
end NP
namespace Go.Proofs.YtjapjahfllomkaaGreatDoor
open NQ Go NP Go.RowKit
noncomputable def cxT:Cx:={cx with bld:=[11]}
theorem tyT:bB cxT:=bf
theorem N9:cxT.P.follows .mixedOrders=true:=mixed
noncomputable def Ko:Cx:={cx with bld:=[17]}
theorem O5:bB Ko:=bf
theorem Nf:Ko.P.follows .mixedOrders=true:=mixed
noncomputable def Kp:Cx:={cx with bld:=[5,9,12,19,21,23]}
theorem O6:bB Kp:=bf
theorem Ng:Kp.P.follows .mixedOrders=true:=mixed
noncomputable def Kq:Cx:={cx with bld:=[96,106,111,116]}
theorem O7:bB Kq:=bf
theorem Nh:Kq.P.follows .mixedOrders=true:=mixed
theorem nW(n:Bs)(t:Int)(to:Bs):NQ.Fn cx 129 [.str n, .int .i64 t, .str to] (.agg ((jX (uP n t to)).map .d)) []:=by
 show NQ.Fn cxT _ _ _ _
 refine df (fun _=>[]) tyT N9 Tryz.func129 (by kernel_rfl) rfl (ai rfl) ?_
 conv=>whnf
 exact af rfl rfl
theorem um(a host:Bs)(l:List gi)(hl:l.length<=1000):NQ.Fn cx 128 [.str a, .str host, .slice 4 (l.map jX)] (.agg ((bq (OQ a host l)).map .d)) []:=by
 show NQ.Fn Ko _ _ _ _
 refine df (fun | 7=>[200] | _=>[]) O5 Nf Tryz.func128 (by kernel_rfl) rfl (ai rfl) ?_
 conv=>whnf
 (refine⟨_,_,nW a 2 host,?_⟩;conv=>whnf)
 refine⟨by(show 2+(l.map jX).length<=_;simp;omega),by(show(2+(l.map jX).length)*56<=_;simp;omega),?_⟩
 conv=>whnf
 have hL:(gY a host l).length=2+l.length:=by unfold gY;simp;omega
 refine ⟨Nat, fun k => ⟨[(6, .ptr 6 0), (7, .ptr 7 0), (21, .d (.slice 4 ((gY a host l).map jX))), (22, .d (.int .i64 (((gY a host l).map jX).length : Int))), (23, .d (.int .i64 k))],
     [(6, .box [.d (.str []), .nil 5]),(7, .box [.d (.str a), .own 200]),(200, .row 74 5 ((((gY a host l).take k).map sgn).map ay))]⟩,fun k=>k<=(gY a host l).length,fun k=>(gY a host l).length-k,
  ⟨0,Nat.zero_le _,((aj.N3 [19]).trans (aj.rU 7 1 200 5 [.d (.str a), .nil 5] 74 5 (by kernel_rfl) rfl (by kernel_rfl) (by decide))).trans (aj.keep ⟨⟨rfl,rfl⟩,⟨rfl,rfl⟩,⟨by kernel_rfl,rfl⟩,⟨by kernel_rfl,rfl⟩,⟨rfl,rfl⟩,trivial⟩ ⟨⟨rfl,rfl⟩,⟨rfl,rfl⟩,⟨rfl,rfl⟩,trivial⟩)⟩,fun k hk=>?_⟩
 dsimp only at hk ⊢
 conv=>whnf
 refine ae (fun h1=>?_) (fun h1=>?_) <;> (rw[h1];conv=>whnf)
 . have hlt:k<(gY a host l).length:=by
    have:(k:Int)<(((gY a host l).map jX).length:Int):=of_decide_eq_true h1;rw[ao]at this;omega
   obtain⟨s,hs⟩:∃s,(gY a host l)[k]? =some s:=⟨_,ah hlt⟩
   refine⟨az k,jX s,aT hs,?_⟩
   conv=>whnf
   have htl:((gY a host l).take k).length=k:=by rw[List.length_take];omega
   refine⟨by(show((((gY a host l).take k).map sgn).map ay).length+1<=_;simp;omega),by(show(((((gY a host l).take k).map sgn).map ay).length+1)*80<=_;simp;omega),?_⟩
   conv=>whnf
   refine⟨k+1,hlt,by(show(gY a host l).length-(k+1)<(gY a host l).length-k;omega),aj.keep ⟨⟨rfl,rfl⟩,⟨rfl,rfl⟩,⟨rfl,rfl⟩,⟨rfl,rfl⟩,⟨aq (by omega),rfl⟩,trivial⟩ ⟨⟨rfl,rfl⟩,⟨rfl,rfl⟩,⟨?_,rfl⟩,trivial⟩⟩;rw[bn hs,List.map_append,List.map_append];rfl
 . obtain rfl:k=(gY a host l).length:=by
    have:¬(k:Int)<(((gY a host l).map jX).length:Int):=of_decide_eq_false h1;rw[ao]at this;omega
   rw[List.take_length];exact af rfl rfl
set_option maxHeartbeats 4000000 in
theorem iP:NQ.Fn cx 68 [] (.agg ((bY exL).map .d)) []:=by
 show NQ.Fn Kp _ _ _ _
 have t1:=nW [120] 2 [104,46,121];have t2:=nW [121] 2 [104,46,120];have t3:=nW [108,46,120] 3 [109,46,120];have t4:=nW [109,46,120] 3 [108,46,120];have z1:=um [46] [97] [uP [120] 2 [104,46,121],uP [121] 2 [104,46,120]] (by decide);have z2:=um [120] [104,46,121] [uP [108,46,120] 3 [109,46,120],uP [109,46,120] 3 [108,46,120]] (by decide);have z3:=um [121] [104,46,120] [] (by decide);refine df (fun | 3=>[66666] | _=>[]) O6 Ng Tryz.func68 (by kernel_rfl) rfl (ai rfl) ?_
 conv=>whnf
 (refine⟨_,_,t1,?_⟩;conv=>whnf)
 (refine⟨_,_,t2,?_⟩;conv=>whnf)
 (refine⟨_,_,z1,?_⟩;conv=>whnf)
 (refine⟨_,_,t3,?_⟩;conv=>whnf)
 (refine⟨_,_,t4,?_⟩;conv=>whnf)
 (refine⟨_,_,z2,?_⟩;conv=>whnf)
 (refine⟨(by kernel_rfl:ie _=true),?_⟩;conv=>whnf)
 repeat' (first
  | (refine⟨_,_,z3,?_⟩;conv=>whnf)
  | (exact af rfl rfl)
  | (refine⟨by kernel_rfl,?_⟩;conv=>whnf)
  | (refine⟨?_,?_⟩ <;> (conv=>whnf))
  | fail)
theorem tS(a b:List Bs)(ha:a.length<=100000)(hb:b.length<=100000):NQ.Fn cx 70 [.slice 1 (a.map au), .slice 1 (b.map au)] (.d (.bool (nX a b))) []:=by
 refine aP bf mixed Tryz.func70 (by kernel_rfl) rfl (ai rfl) ?_;conv=>whnf
 (refine⟨_,_,LR a b ha hb,?_⟩;conv=>whnf)
 exact af rfl rfl
set_option maxHeartbeats 2000000 in
theorem zq:NQ.Fn cx 26 [] (.d (.bool true)) []:=by
 show NQ.Fn Kq _ _ _ _
 have a1:=y9 exL [108,46,120] oN (by decide);rw[H3]at a1;have a2:=y9 exL [120] oN (by decide);rw[Kz]at a2;have n1:=zH exL [120] oN;rw[H5]at n1;have z1:=uo exL oN;rw[H6]at z1;have l1:=IF exL [120] oN;rw[H4]at l1;have n2:=zH exL [122] oN;rw[N0]at n2;have z2:=uo exN MM;rw[H7]at z2;have s1:=tS [[108,46,120],[109,46,120]] [[108,46,120],[109,46,120]] (by decide) (by decide);rw[show nX [[108,46,120],[109,46,120]] [[108,46,120],[109,46,120]]=true by decide]at s1;have s2:=tS [[121]] [[121]] (by decide) (by decide);rw[show nX [[121]] [[121]]=true by decide]at s2
 have s3:=tS [[120],[121]] [[120],[121]] (by decide) (by decide);rw[show nX [[120],[121]] [[120],[121]]=true by decide]at s3;refine df (fun _=>[]) O7 Nh Tryz.func26 (by kernel_rfl) rfl (ai rfl) ?_
 conv=>whnf
 (refine⟨_,_,iP,?_⟩;conv=>whnf)
 (refine⟨_,_,a1,?_⟩;conv=>whnf)
 (refine⟨_,_,iP,?_⟩;conv=>whnf)
 (refine⟨_,_,a2,?_⟩;conv=>whnf)
 (refine⟨_,_,iP,?_⟩;conv=>whnf)
 (refine⟨_,_,n1,?_⟩;conv=>whnf)
 (refine⟨_,_,iP,?_⟩;conv=>whnf)
 (refine⟨_,_,z1,?_⟩;conv=>whnf)
 (refine⟨_,_,iP,?_⟩;conv=>whnf)
 (refine⟨_,_,l1,?_⟩;conv=>whnf)
 (refine⟨_,_,iP,?_⟩;conv=>whnf)
 (refine⟨_,_,n2,?_⟩;conv=>whnf)
 (refine⟨_,_,z2,?_⟩;conv=>whnf)
 (refine⟨_,_,s1,?_⟩;conv=>whnf)
 (refine⟨_,_,s2,?_⟩;conv=>whnf)
 (refine⟨_,_,s3,?_⟩;conv=>whnf)
 (refine⟨_,_,s3,?_⟩;conv=>whnf)
 exact af rfl rfl
theorem Eh(w:bX):NQ.Fn cx 27 [.agg (bY w)] (.d (.bool (pE w&&cO w))) []:=by
 refine aP bf mixed Tryz.func27 (by kernel_rfl) rfl (ai rfl) ?_;conv=>whnf
 (refine⟨_,_,H8 w,?_⟩;conv=>whnf)
 cases hf:pE w with
 | false =>
  conv=>whnf
  exact af rfl rfl
 | true =>
  conv=>whnf
  (refine⟨_,_,GS w (zl hf).1,?_⟩;conv=>whnf)
  exact af rfl rfl
end Go.Proofs.YtjapjahfllomkaaGreatDoor
namespace NP
open NQ Go
theorem LW{w:bX}(h:(pE w&&cO w)=true):k7 w/\cO w=true/\w.zones.length<=12/\w.hosts.length<=70:=by
 rw[aR]at h;obtain⟨h1,h2,h3⟩:=zl h.1;exact⟨h1,h.2,h3,h2⟩
end NP
namespace Go.Proofs.YtjapjahfllomkaaGreatDoor
open NQ Go NP Go.RowKit
end Go.Proofs.YtjapjahfllomkaaGreatDoor
namespace NP
open NQ Go
theorem JU{p:Bs->Bool}{l:List Bs}{k:Nat}{x:Bs}(h:l[k]? =some x):(l.take (k+1)).any p=((l.take k).any p||p x):=by
 rw[bn h,List.any_append];simp
def fT(zs:List ag):List Bs:=(aw zs).filter fun z=> !(bt zs).contains z
end NP
namespace Go.Proofs.YtjapjahfllomkaaGreatDoor
open NQ Go NP Go.RowKit
def N4:Nat->List Nat
 | 15=>[55555]
 | 25=>[55555]
 | 31=>[55555]
 | 36=>[55555]
 | _=>[]
set_option maxHeartbeats 4000000 in
theorem I2(w:bX)(hF:k7 w)(hv:cO w=true)(hzl:w.zones.length<=12)(st:St)
 (hs:aj cx st ⟨[(1, .ptr 1 0),(3, .d (.bool true)),(6, .omap 33),(9, .d (.slice 1 ((fT w.zones).map au))),(10, .d (.slice 1 ((aw w.zones).map au)))],[(1, .box ((bY w).map .d)),(33, .smap (ga (bt w.zones)))]⟩) :
 vc cx Tryz.f6.ntmps N4 (ny 11 ((Tryz.f6.body).getD .skip)) (fnQ cx Tryz.f6.results.toList (.d (.bool true)) []) st:=by
 have hg:=uB hF hv;have hal:=jy w.zones;have hrl:(fT w.zones).length<=(aw w.zones).length:=List.length_filter_le _ _
 conv=>whnf
 refine⟨_,hs,?_⟩
 conv=>whnf
 refine⟨Nat,fun k=>⟨[(1, .ptr 1 0),(3, .d (.bool true)),(6, .omap 33),(9, .d (.slice 1 ((fT w.zones).map au))),(81, .d (.slice 1 ((aw w.zones).map au))),(82, .d (.int .i64 (((aw w.zones).map au).length:Int))),(83, .d (.int .i64 k))],[(1, .box ((bY w).map .d)),(33, .smap (ga (bt w.zones)))]⟩,
  fun k=>k<=(aw w.zones).length,fun k=>(aw w.zones).length-k,⟨0,Nat.zero_le _,aj.keep ⟨⟨rfl,rfl⟩,⟨rfl,rfl⟩,⟨rfl,rfl⟩,⟨rfl,rfl⟩,⟨rfl,rfl⟩,⟨rfl,rfl⟩,⟨rfl,rfl⟩,trivial⟩ ⟨⟨rfl,rfl⟩,⟨rfl,rfl⟩,trivial⟩⟩,fun k hk=>?_⟩
 dsimp only at hk ⊢
 conv=>whnf
 refine ae (fun h1=>?_) (fun h1=>?_) <;> (rw[h1];conv=>whnf)
 case refine_2=>exact af rfl rfl
 have hlt:k<(aw w.zones).length:=by simpa using h1
 obtain⟨z,hz⟩:∃z,(aw w.zones)[k]? =some z:=⟨_,ah hlt⟩
 have hzm:=ar hz;have hzv:an z=true:=iV hg ((gI w.zones z).2 (iy.1 hzm));have hgood:=KO hg hzm;have fD:=HO w z hg hzv (by omega)
 have round : ∀ (st : St), aj cx st ⟨[(1, .ptr 1 0), (3, .d (.bool true)), (6, .omap 33), (9, .d (.slice 1 ((fT w.zones).map au))), (81, .d (.slice 1 ((aw w.zones).map au))), (82, .d (.int .i64 (((aw w.zones).map au).length : Int))), (83, .d (.int .i64 k)), (14, .d (.str z)), (18, .d (.bool (!(bt w.zones).contains z)))], [(1, .box ((bY w).map .d)), (33, .smap (ga (bt w.zones)))]⟩ ->
     aj cx st ⟨[(1, .ptr 1 0),(3, .d (.bool true)),(6, .omap 33),(9, .d (.slice 1 ((fT w.zones).map au))),(81, .d (.slice 1 ((aw w.zones).map au))),(82, .d (.int .i64 (((aw w.zones).map au).length:Int))),(83, .d (.int .i64 k)),(14, .d (.str z)),(18, .d (.bool (!(bt w.zones).contains z)))],[(1, .box ((bY w).map .d)),(33, .smap (ga (bt w.zones)))]⟩:=fun _ h=>h
 refine⟨az k,au z,aT hz,?_⟩
 conv=>whnf
 (refine⟨_,_,fD,?_⟩;conv=>whnf)
 cases hd:cF w.zones z with
 | none =>
  rw[hd]at hgood;dsimp only at hgood;rw[aE]at hgood
  conv=>whnf
  refine⟨_,round _ (aj.keep ⟨⟨rfl,rfl⟩,⟨rfl,rfl⟩,⟨rfl,rfl⟩,⟨rfl,rfl⟩,⟨rfl,rfl⟩,⟨rfl,rfl⟩,⟨rfl,rfl⟩,⟨rfl,rfl⟩,⟨by rw[<- hgood];rfl,rfl⟩,trivial⟩ ⟨⟨rfl,rfl⟩,⟨rfl,rfl⟩,trivial⟩),?_⟩
  conv=>whnf
  rw[gD];cases (bt w.zones).contains z with
  | true =>
   conv=>whnf
   exact⟨k+1,hlt,by(show(aw w.zones).length-(k+1)<(aw w.zones).length-k;omega),aj.keep ⟨⟨rfl,rfl⟩,⟨rfl,rfl⟩,⟨rfl,rfl⟩,⟨rfl,rfl⟩,⟨rfl,rfl⟩,⟨rfl,rfl⟩,⟨aq (by omega),rfl⟩,trivial⟩ ⟨⟨rfl,rfl⟩,⟨rfl,rfl⟩,trivial⟩⟩
  | false =>
   conv=>whnf
   exact⟨k+1,hlt,by(show(aw w.zones).length-(k+1)<(aw w.zones).length-k;omega),aj.keep ⟨⟨rfl,rfl⟩,⟨rfl,rfl⟩,⟨rfl,rfl⟩,⟨rfl,rfl⟩,⟨rfl,rfl⟩,⟨rfl,rfl⟩,⟨aq (by omega),rfl⟩,trivial⟩ ⟨⟨rfl,rfl⟩,⟨rfl,rfl⟩,trivial⟩⟩
 | some p =>
  rw[hd]at hgood;dsimp only at hgood;obtain⟨s0,R,hs0,hh0,hhv,hhl⟩:=o7 hg hzv hd;have hsl:p.2.sets.length<=100000:=by
   obtain⟨x,hx,hpa,hu,_⟩:=CY hg (xO hzv) p (by
    unfold cF at hd;split at hd
    . cases hd
    . exact List.mem_of_find?_eq_some hd)
   rw[hpa];have:=Ep hu.few ⟨z,2⟩;omega
  have fS:=D3 p.2 s0 R hs0 (by rw[hh0,ao]at hhl;omega);rw[<- hh0]at fS
  conv=>whnf
  rw[gD,show(xf (some p)).2.1=p.1 from rfl];cases hab:(bt w.zones).contains p.1 with
  | true =>
   rw[hab]at hgood;simp only[aK,aG,aE]at hgood
   conv=>whnf
   refine⟨_,round _ (aj.keep ⟨⟨rfl,rfl⟩,⟨rfl,rfl⟩,⟨rfl,rfl⟩,⟨rfl,rfl⟩,⟨rfl,rfl⟩,⟨rfl,rfl⟩,⟨rfl,rfl⟩,⟨rfl,rfl⟩,⟨by rw[<- hgood];rfl,rfl⟩,trivial⟩ ⟨⟨rfl,rfl⟩,⟨rfl,rfl⟩,trivial⟩),?_⟩
   conv=>whnf
   rw[gD];cases (bt w.zones).contains z with
   | true =>
    conv=>whnf
    exact⟨k+1,hlt,by(show(aw w.zones).length-(k+1)<(aw w.zones).length-k;omega),aj.keep ⟨⟨rfl,rfl⟩,⟨rfl,rfl⟩,⟨rfl,rfl⟩,⟨rfl,rfl⟩,⟨rfl,rfl⟩,⟨rfl,rfl⟩,⟨aq (by omega),rfl⟩,trivial⟩ ⟨⟨rfl,rfl⟩,⟨rfl,rfl⟩,trivial⟩⟩
   | false =>
    conv=>whnf
    exact⟨k+1,hlt,by(show(aw w.zones).length-(k+1)<(aw w.zones).length-k;omega),aj.keep ⟨⟨rfl,rfl⟩,⟨rfl,rfl⟩,⟨rfl,rfl⟩,⟨rfl,rfl⟩,⟨rfl,rfl⟩,⟨rfl,rfl⟩,⟨aq (by omega),rfl⟩,trivial⟩ ⟨⟨rfl,rfl⟩,⟨rfl,rfl⟩,trivial⟩⟩
  | false =>
   rw[hab]at hgood;simp only[aI,aF]at hgood
   conv=>whnf
   refine⟨⟨[(1, .ptr 1 0),(3, .d (.bool true)),(6, .omap 33),(9, .d (.slice 1 ((fT w.zones).map au))),(81, .d (.slice 1 ((aw w.zones).map au))),(82, .d (.int .i64 (((aw w.zones).map au).length:Int))),(83, .d (.int .i64 k)),(14, .d (.str z)),(15, .ptr 15 0),(18, .d (.bool (z==[46])))],[(1, .box ((bY w).map .d)),(15, .box ((dq p.2).map .d)),(33, .smap (ga (bt w.zones)))]⟩,
    aj.keep ⟨⟨rfl,rfl⟩,⟨rfl,rfl⟩,⟨rfl,rfl⟩,⟨rfl,rfl⟩,⟨rfl,rfl⟩,⟨rfl,rfl⟩,⟨rfl,rfl⟩,⟨rfl,rfl⟩,⟨rfl,rfl⟩,⟨rfl,rfl⟩,trivial⟩ ⟨⟨rfl,rfl⟩,⟨rfl,rfl⟩,⟨rfl,rfl⟩,trivial⟩,?_⟩
   conv=>whnf
   (refine⟨_,_,fS,?_⟩;conv=>whnf)
   refine ⟨Nat, fun j => ⟨[(1, .ptr 1 0), (3, .d (.bool true)), (6, .omap 33), (9, .d (.slice 1 ((fT w.zones).map au))), (81, .d (.slice 1 ((aw w.zones).map au))), (82, .d (.int .i64 (((aw w.zones).map au).length : Int))), (83, .d (.int .i64 k)), (14, .d (.str z)), (15, .ptr 15 0), (18, .d (.bool ((z == [46]) || ((cH p.2).take j).any fun h => lD w.zones p.2 h (fT w.zones).contains))), (104, .d (.slice 1 ((cH p.2).map au))), (105, .d (.int .i64 (((cH p.2).map au).length : Int))), (106, .d (.int .i64 j))],
       [(1, .box ((bY w).map .d)),(15, .box ((dq p.2).map .d)),(33, .smap (ga (bt w.zones)))]⟩,fun j=>j<=(cH p.2).length,fun j=>(cH p.2).length-j,
    ⟨0,Nat.zero_le _,aj.keep ⟨⟨rfl,rfl⟩,⟨rfl,rfl⟩,⟨rfl,rfl⟩,⟨rfl,rfl⟩,⟨rfl,rfl⟩,⟨rfl,rfl⟩,⟨rfl,rfl⟩,⟨rfl,rfl⟩,⟨rfl,rfl⟩,⟨by simp;rfl,rfl⟩,⟨rfl,rfl⟩,⟨rfl,rfl⟩,⟨rfl,rfl⟩,trivial⟩ ⟨⟨rfl,rfl⟩,⟨rfl,rfl⟩,⟨rfl,rfl⟩,trivial⟩⟩,fun j hj=>?_⟩
   dsimp only at hj ⊢
   conv=>whnf
   refine ae (fun h2=>?_) (fun h2=>?_) <;> (rw[h2];conv=>whnf)
   . have hjl:j<(cH p.2).length:=by simpa using h2
     obtain⟨n,hn⟩:∃n,(cH p.2)[j]? =some n:=⟨_,ah hjl⟩
     have hnv:=hhv n (ar hn);have fG:=KP w p.2 n (fT w.zones) hg hnv (by omega) hsl (by omega);have hnext:=JU (p:=fun h=>lD w.zones p.2 h (fT w.zones).contains) hn;refine⟨az j,au n,aT hn,?_⟩
     conv=>whnf
     cases hb:((z==[46])||((cH p.2).take j).any fun h=>lD w.zones p.2 h (fT w.zones).contains)with
     | true =>
      conv=>whnf
      refine⟨j+1,hjl,by(show(cH p.2).length-(j+1)<(cH p.2).length-j;omega),aj.keep ⟨⟨rfl,rfl⟩,⟨rfl,rfl⟩,⟨rfl,rfl⟩,⟨rfl,rfl⟩,⟨rfl,rfl⟩,⟨rfl,rfl⟩,⟨rfl,rfl⟩,⟨rfl,rfl⟩,⟨rfl,rfl⟩,⟨?_,rfl⟩,⟨rfl,rfl⟩,⟨rfl,rfl⟩,⟨aq (by omega),rfl⟩,trivial⟩ ⟨⟨rfl,rfl⟩,⟨rfl,rfl⟩,⟨rfl,rfl⟩,trivial⟩⟩;rw[hnext, <- Bool.or_assoc,hb];rfl
     | false =>
      conv=>whnf
      (refine⟨_,_,fG,?_⟩;conv=>whnf)
      refine⟨j+1,hjl,by(show(cH p.2).length-(j+1)<(cH p.2).length-j;omega),aj.keep ⟨⟨rfl,rfl⟩,⟨rfl,rfl⟩,⟨rfl,rfl⟩,⟨rfl,rfl⟩,⟨rfl,rfl⟩,⟨rfl,rfl⟩,⟨rfl,rfl⟩,⟨rfl,rfl⟩,⟨rfl,rfl⟩,⟨?_,rfl⟩,⟨rfl,rfl⟩,⟨rfl,rfl⟩,⟨aq (by omega),rfl⟩,trivial⟩ ⟨⟨rfl,rfl⟩,⟨rfl,rfl⟩,⟨rfl,rfl⟩,trivial⟩⟩;rw[hnext, <- Bool.or_assoc,hb];rfl
   . obtain rfl:j=(cH p.2).length:=by simp at h2;omega
     rw[List.take_length];have hgood2:((z==[46])||(cH p.2).any fun h=>lD w.zones p.2 h (fT w.zones).contains)= !(bt w.zones).contains z:=hgood;rw[hgood2];refine⟨_,round _ (aj.keep ⟨⟨rfl,rfl⟩,⟨rfl,rfl⟩,⟨rfl,rfl⟩,⟨rfl,rfl⟩,⟨rfl,rfl⟩,⟨rfl,rfl⟩,⟨rfl,rfl⟩,⟨rfl,rfl⟩,⟨rfl,rfl⟩,trivial⟩ ⟨⟨rfl,rfl⟩,⟨rfl,rfl⟩,trivial⟩),?_⟩
     conv=>whnf
     rw[gD];cases (bt w.zones).contains z with
     | true =>
      conv=>whnf
      exact⟨k+1,hlt,by(show(aw w.zones).length-(k+1)<(aw w.zones).length-k;omega),aj.keep ⟨⟨rfl,rfl⟩,⟨rfl,rfl⟩,⟨rfl,rfl⟩,⟨rfl,rfl⟩,⟨rfl,rfl⟩,⟨rfl,rfl⟩,⟨aq (by omega),rfl⟩,trivial⟩ ⟨⟨rfl,rfl⟩,⟨rfl,rfl⟩,trivial⟩⟩
     | false =>
      conv=>whnf
      exact⟨k+1,hlt,by(show(aw w.zones).length-(k+1)<(aw w.zones).length-k;omega),aj.keep ⟨⟨rfl,rfl⟩,⟨rfl,rfl⟩,⟨rfl,rfl⟩,⟨rfl,rfl⟩,⟨rfl,rfl⟩,⟨rfl,rfl⟩,⟨aq (by omega),rfl⟩,trivial⟩ ⟨⟨rfl,rfl⟩,⟨rfl,rfl⟩,trivial⟩⟩
set_option maxHeartbeats 4000000 in
theorem wz(w:bX):NQ.Fn cx 6 [.agg (bY w)] (.d (.bool true)) []:=by
 have fU:=Eh w;cases hu:(pE w&&cO w)with
 | false =>
  rw[hu]at fU;refine aP bf mixed Tryz.func6 (by kernel_rfl) rfl (ai rfl) ?_;conv=>whnf
  (refine⟨_,_,zq,?_⟩;conv=>whnf)
  (refine⟨_,_,fU,?_⟩;conv=>whnf)
  exact af rfl rfl
 | true =>
 rw[hu]at fU;obtain⟨hF,hv,hzl,_⟩:=LW hu;have hg:=uB hF hv;have hal:=jy w.zones;have fZ:=uo w hF;rw[show pt w=(bt w.zones,0) by unfold pt;rw[if_pos hv]]at fZ;have hzz:(bt w.zones).length<=(aw w.zones).length:=List.length_filter_le _ _;have hsum:=D1 w.zones;have hend:=I2 w hF hv hzl;have hzv:∀x∈bt w.zones,an x=true:=fun x hx=>iV hg ((gI w.zones x).2 (iy.1 (G2 hx)))
 have hrise:=En w.zones;have hnd:(bt w.zones).Nodup:=(sH w.zones).filter _;have hrl:(fT w.zones).length<=(aw w.zones).length:=List.length_filter_le _ _;have htl:∀k,(((aw w.zones).take k).filter fun z=> !(bt w.zones).contains z).length<=1000:=fun k=>by
  have:=List.length_filter_le (fun z=> !(bt w.zones).contains z) ((aw w.zones).take k);rw[List.length_take]at this;omega
 refine df N4 bf mixed Tryz.func6 (by kernel_rfl) rfl (ai rfl) ?_
 conv=>whnf
 (refine⟨_,_,zq,?_⟩;conv=>whnf)
 (refine⟨_,_,fU,?_⟩;conv=>whnf)
 (refine⟨_,_,fZ,?_⟩;conv=>whnf)
 refine⟨Nat,fun k=>⟨[(1, .ptr 1 0),(3, .d (.bool true)),(4, .d (.slice 1 ((bt w.zones).map au))),(6, .omap 33),(34, .d (.slice 1 ((bt w.zones).map au))),(35, .d (.int .i64 (((bt w.zones).map au).length:Int))),(36, .d (.int .i64 k))],[(1, .box ((bY w).map .d)),(33, .smap (ga ((bt w.zones).take k)))]⟩,
  fun k=>k<=(bt w.zones).length,fun k=>(bt w.zones).length-k,⟨0,Nat.zero_le _,aj.keep ⟨⟨rfl,rfl⟩,⟨rfl,rfl⟩,⟨rfl,rfl⟩,⟨rfl,rfl⟩,⟨rfl,rfl⟩,⟨rfl,rfl⟩,⟨rfl,rfl⟩,trivial⟩ ⟨⟨rfl,rfl⟩,⟨rfl,rfl⟩,trivial⟩⟩,fun k hk=>?_⟩
 dsimp only at hk ⊢
 conv=>whnf
 refine ae (fun h1=>?_) (fun h1=>?_) <;> (rw[h1];conv=>whnf)
 . have hlt:k<(bt w.zones).length:=by simpa using h1
   obtain⟨z,hz⟩:∃z,(bt w.zones)[k]? =some z:=⟨_,ah hlt⟩
   have hzm:=ar hz;have hnew:((bt w.zones).take k).contains z=false:=by
    rw[Bool.eq_false_iff];intro e;obtain⟨j,hj⟩:=cd (cr.1 e);have hjl:=(av.1 hj).1;rw[List.length_take]at hjl;rw[List.getElem?_take_of_lt (by omega)]at hj;have:=tI hnd hj hz;omega
   have fin:aj cx ⟨[(1, .ptr 1 0),(3, .d (.bool true)),(4, .d (.slice 1 ((bt w.zones).map au))),(6, .omap 33),(34, .d (.slice 1 ((bt w.zones).map au))),(35, .d (.int .i64 (((bt w.zones).map au).length:Int))),(36, .d (.int .i64 (k+1:Nat)))],[(1, .box ((bY w).map .d)),(33, .smap (cM z (.bool true) (ga ((bt w.zones).take k))))]⟩
    ⟨[(1, .ptr 1 0),(3, .d (.bool true)),(4, .d (.slice 1 ((bt w.zones).map au))),(6, .omap 33),(34, .d (.slice 1 ((bt w.zones).map au))),(35, .d (.int .i64 (((bt w.zones).map au).length:Int))),(36, .d (.int .i64 (k+1:Nat)))],[(1, .box ((bY w).map .d)),(33, .smap (ga ((bt w.zones).take (k+1))))]⟩:=by
    rw[bn hz,tT hnew];exact aj.refl _
   refine⟨az k,au z,aT hz,?_⟩
   conv=>whnf
   refine ae (fun h2=>?_) (fun h2=>?_) <;> (rw[h2];conv=>whnf)
   . have hk0:0<k:=by have:=of_decide_eq_true h2;omega
     obtain⟨p,hp⟩:∃p,(bt w.zones)[k-1]? =some p:=⟨_,ah (by omega)⟩
     have hw:IntKind.i64.wrap ((k:Int)-1)=((k-1:Nat):Int):=by rw[wrap_i64 (by omega) (by omega)];omega
     rw[hw];refine⟨az _,au p,aT hp,?_⟩
     conv=>whnf
     have hpz:aL p z= -1:=by
      rw[List.pairwise_iff_getElem]at hrise;obtain⟨_,e1⟩:=av.1 hp;obtain⟨_,e2⟩:=av.1 hz;rw[<- e1, <- e2];exact hrise (k-1) k (by omega) hlt (by omega)
     have fO:=px p z (bD (hzv p (ar hp))) (bD (hzv z hzm));rw[hpz]at fO
     (refine⟨_,_,fO,?_⟩;conv=>whnf)
     (refine⟨k+1,hlt,by(show(bt w.zones).length-(k+1)<(bt w.zones).length-k;omega),aj.trans ?_ fin⟩;exact(aj.keep ⟨⟨rfl,rfl⟩,⟨rfl,rfl⟩,⟨rfl,rfl⟩,⟨rfl,rfl⟩,⟨rfl,rfl⟩,⟨rfl,rfl⟩,⟨aq (by omega),rfl⟩,trivial⟩ ⟨⟨rfl,rfl⟩,⟨rfl,rfl⟩,trivial⟩))
   . (refine⟨k+1,hlt,by(show(bt w.zones).length-(k+1)<(bt w.zones).length-k;omega),aj.trans ?_ fin⟩;exact(aj.keep ⟨⟨rfl,rfl⟩,⟨rfl,rfl⟩,⟨rfl,rfl⟩,⟨rfl,rfl⟩,⟨rfl,rfl⟩,⟨rfl,rfl⟩,⟨aq (by omega),rfl⟩,trivial⟩ ⟨⟨rfl,rfl⟩,⟨rfl,rfl⟩,trivial⟩))
 . obtain rfl:k=(bt w.zones).length:=by simp at h1;omega
   rw[List.take_length];refine⟨⟨[(1, .ptr 1 0),(3, .d (.bool true)),(4, .d (.slice 1 ((bt w.zones).map au))),(6, .omap 33)],[(1, .box ((bY w).map .d)),(33, .smap (ga (bt w.zones)))]⟩,aj.keep ⟨⟨rfl,rfl⟩,⟨rfl,rfl⟩,⟨rfl,rfl⟩,⟨rfl,rfl⟩,trivial⟩ ⟨⟨rfl,rfl⟩,⟨rfl,rfl⟩,trivial⟩,?_⟩
   conv=>whnf
   (refine⟨_,_,DE w hg (by omega),?_⟩;conv=>whnf)
   refine ⟨Nat, fun j => ⟨[(1, .ptr 1 0), (3, .d (.bool true)), (4, .d (.slice 1 ((bt w.zones).map au))), (6, .omap 33), (9, .own 9), (10, .d (.slice 1 ((aw w.zones).map au))), (58, .d (.slice 1 ((aw w.zones).map au))), (59, .d (.int .i64 (((aw w.zones).map au).length : Int))), (60, .d (.int .i64 j))],
       [(1, .box ((bY w).map .d)),(9, .row 9 1 ((((aw w.zones).take j).filter fun z=> !(bt w.zones).contains z).map au)),(33, .smap (ga (bt w.zones)))]⟩,fun j=>j<=(aw w.zones).length,fun j=>(aw w.zones).length-j,
    ⟨0,Nat.zero_le _,(aj.jR 9 9 1 9 1 rfl rfl (by decide)).trans (aj.keep ⟨⟨rfl,rfl⟩,⟨rfl,rfl⟩,⟨rfl,rfl⟩,⟨rfl,rfl⟩,⟨rfl,rfl⟩,⟨rfl,rfl⟩,⟨rfl,rfl⟩,⟨rfl,rfl⟩,⟨rfl,rfl⟩,trivial⟩ ⟨⟨rfl,rfl⟩,⟨rfl,rfl⟩,⟨rfl,rfl⟩,trivial⟩)⟩,fun j hj=>?_⟩
   dsimp only at hj ⊢
   conv=>whnf
   refine ae (fun h2=>?_) (fun h2=>?_) <;> (rw[h2];conv=>whnf)
   . have hlt:j<(aw w.zones).length:=by simpa using h2
     obtain⟨z,hz⟩:∃z,(aw w.zones)[j]? =some z:=⟨_,ah hlt⟩
     have hf:=htl j;refine⟨az j,au z,aT hz,?_⟩
     conv=>whnf
     rw[gD];cases hc:(bt w.zones).contains z with
     | true =>
      conv=>whnf
      refine⟨j+1,hlt,by(show(aw w.zones).length-(j+1)<(aw w.zones).length-j;omega),aj.keep ⟨⟨rfl,rfl⟩,⟨rfl,rfl⟩,⟨rfl,rfl⟩,⟨rfl,rfl⟩,⟨rfl,rfl⟩,⟨rfl,rfl⟩,⟨rfl,rfl⟩,⟨rfl,rfl⟩,⟨aq (by omega),rfl⟩,trivial⟩ ⟨⟨rfl,rfl⟩,⟨?_,rfl⟩,⟨rfl,rfl⟩,trivial⟩⟩;rw[bn hz,List.filter_append,List.filter_cons_of_neg (by rw[hc];simp),List.filter_nil,List.append_nil];rfl
     | false =>
      conv=>whnf
      refine⟨by(show((((aw w.zones).take j).filter fun z=> !(bt w.zones).contains z).map au).length+1<=_);rw[ao];omega,by(show(((((aw w.zones).take j).filter fun z=> !(bt w.zones).contains z).map au).length+1)*16<=_);rw[ao];omega,?_⟩
      conv=>whnf
      refine⟨j+1,hlt,by(show(aw w.zones).length-(j+1)<(aw w.zones).length-j;omega),aj.keep ⟨⟨rfl,rfl⟩,⟨rfl,rfl⟩,⟨rfl,rfl⟩,⟨rfl,rfl⟩,⟨rfl,rfl⟩,⟨rfl,rfl⟩,⟨rfl,rfl⟩,⟨rfl,rfl⟩,⟨aq (by omega),rfl⟩,trivial⟩ ⟨⟨rfl,rfl⟩,⟨?_,rfl⟩,⟨rfl,rfl⟩,trivial⟩⟩;rw[bn hz,List.filter_append,List.filter_cons_of_pos (by rw[hc];rfl),List.filter_nil,List.map_append];rfl
   . obtain rfl:j=(aw w.zones).length:=by simp at h2;omega
     rw[List.take_length];have hfil:(aw w.zones).filter (fun z=> !(bt w.zones).contains z)=fT w.zones:=rfl;have hsum' :(fT w.zones).length+(bt w.zones).length=(aw w.zones).length:=hsum;rw[hfil];have htest:(IntKind.i64.wrap ((((fT w.zones).map au).length:Int)+(((bt w.zones).map au).length:Int)) != (((aw w.zones).map au).length:Int))=false:=by
      rw[ao,ao,ao,wrap_i64 (by omega) (by omega)];have:((fT w.zones).length:Int)+((bt w.zones).length:Int)=((aw w.zones).length:Int):=by omega
      rw[this];simp
     rw[htest]
     conv=>whnf
     exact hend _ ((aj.N3 [9]).trans (aj.keep ⟨⟨rfl,rfl⟩,⟨rfl,rfl⟩,⟨rfl,rfl⟩,⟨rfl,rfl⟩,⟨rfl,rfl⟩,trivial⟩ ⟨⟨rfl,rfl⟩,⟨rfl,rfl⟩,trivial⟩))
end Go.Proofs.YtjapjahfllomkaaGreatDoor
