/-
  Texts of the proof, merged in build order.
-/
import Derived.Test.YtcecidfnchcagaaGreatDoorIbM
import Derived.Test.YtcecidfnchcagaaGreatDoorMIp
import Derived.Test.YtcecidfnchcagaaGreatDoorMQt
import Derived.Test.YtcecidfnchcagaaGreatDoorMGk
import Derived.Test.YtcecidfnchcagaaGreatDoorMVa
set_option linter.all false
set_option maxRecDepth 100000
namespace NP
open NQ Go
def w8(zs:List ag)(i:Nat):D:=match zs[i]? with | some p=> .agg [.int .i64 (cP p.zone).1, .int .i64 p.host] | none=> .agg [.int .i64 0, .int .i64 0]
def mv(zs:List ag)(i:Nat):D:=match zs[i]? with | some p=> .agg (bt p.zone) | none=> .agg (bt ⟨[],[]⟩)
theorem BT{zs:List ag}{i:Nat}{p:ag}(h:zs[i]? =some p):w8 zs i= .agg [.int .i64 (cP p.zone).1, .int .i64 p.host]:=by unfold w8;rw[h]
theorem Cy{zs:List ag}{i:Nat}{p:ag}(h:zs[i]? =some p):mv zs i= .agg (bt p.zone):=by unfold mv;rw[h]
def Cz(zs:List ag):List (List D×D):=(ik (mv zs) (bC zs)).map fy
def cr(zs:List ag):List D:=[.kmap (Cz zs), .slice 1 ((ar zs).map ao)]
theorem mU(zs:List ag)(a:Bs):fj (.str a) (Cz zs)=some ((aN zs a).map fun x=> .agg (bt x.2.zone)):=by
 unfold Cz;rw[EE,o7];cases h:aN zs a with
 | none=>rfl
 | some x=>simp[Cy (vj zs a x h)]
end NP
namespace Go.Proofs.YtcecidfnchcagaaGreatDoor
open NQ Go NP Go.RowKit
set_option maxHeartbeats 1000000 in
theorem BC(w:aQ)(hz:∀p∈w.zones,ai p.zone.apex=true)(hl:w.zones.length<=100000):NQ.Fn cx 78 [.agg (bp w)] (.agg ((cr w.zones).map .d)) []:=by
 refine cw (fun | 12=>[12] | _=>[]) aH mixed Tryz.func78 (by kernel_rfl) rfl (Nat.le_of_ble_eq_true rfl) ?_;have hvk:∀p∈ik (mv w.zones) (bC w.zones),ai p.1=true:=fun p hp=>by
  obtain⟨y,hy,rfl⟩:=List.mem_map.1 hp;obtain⟨q,hq,ha⟩:=sH.1 (show y.1∈cY (bC w.zones)from List.mem_map.2 ⟨y,hy,rfl⟩);show ai y.1=true
  rw[<- ha];exact hz q hq
 conv=>whnf
 refine ⟨Nat × List (Bs × Nat), fun x => ⟨[(2, .ptr 2 0), (3, .omap 11), (4, .ptr 4 0), (15, .d (.slice 3 (w.zones.map bx))), (16, .d (.int .i64 ((w.zones.map bx).length : Int))), (17, .d (.int .i64 x.1))],
     [(2, .box [.d .nmap, .nil 1]),(11, .smap (ik (w8 w.zones) x.2)),(4, .box [.omap 12, .nil 1]),(12, .smap (ik (mv w.zones) x.2))]⟩,
  fun x=>x.1<=w.zones.length/\fX w.zones x.2/\fk w.zones x.1 (w.zones.drop x.1) x.2=bC w.zones,fun x=>w.zones.length-x.1,
  ⟨(0,[]),⟨Nat.zero_le _,(fun a j h=>by cases h),rfl⟩,ah.keep ⟨⟨rfl,rfl⟩,⟨rfl,rfl⟩,⟨rfl,rfl⟩,⟨rfl,rfl⟩,⟨rfl,rfl⟩,⟨rfl,rfl⟩,trivial⟩ ⟨⟨rfl,rfl⟩,⟨rfl,rfl⟩,⟨rfl,rfl⟩,⟨rfl,rfl⟩,trivial⟩⟩,fun⟨k,m⟩ ⟨hk,hok,hinv⟩=>?_⟩
 dsimp only at hk hok hinv ⊢
 conv=>whnf
 refine ae (fun h1=>?_) (fun h1=>?_) <;> (rw[h1];conv=>whnf)
 . have hlt:k<w.zones.length:=by simpa using h1
   obtain⟨x,hx⟩:∃x,w.zones[k]? =some x:=⟨_,List.getElem?_eq_getElem hlt⟩
   rw[zo hx]at hinv;have again:∀m',(m' =if cT w.zones m x=true then du x.zone.apex k m else m)->(k+1<=w.zones.length/\fX w.zones m' /\fk w.zones (k+1) (w.zones.drop (k+1)) m' =bC w.zones):=fun m' e=>by
    refine⟨hlt,?_,by rw[e];exact hinv⟩;rw[e];split
    . exact hok.put hx
    . exact hok
   have KO:bM x.zone.apex (.agg [.int .i64 (cP x.zone).1, .int .i64 x.host]) (ik (w8 w.zones) m)=ik (w8 w.zones) (du x.zone.apex k m):=by rw[<- BT hx,ym]
   have qW:bM x.zone.apex (.agg (bt x.zone)) (ik (mv w.zones) m)=ik (mv w.zones) (du x.zone.apex k m):=by rw[<- Cy hx,ym]
   refine⟨Int.natCast_nonneg k,bx x,az hx,?_⟩
   conv=>whnf
   (refine⟨_,_,s5 x.zone,?_⟩;conv=>whnf)
   rw[Cj];cases hf:cF x.zone.apex m with
   | none =>
    have ht:cT w.zones m x=true:=by unfold cT;rw[hf]
    conv=>whnf
    refine⟨(k+1,du x.zone.apex k m),again _ (by rw[if_pos ht]),by(show w.zones.length-(k+1)<w.zones.length-k;omega),ah.keep ⟨⟨rfl,rfl⟩,⟨rfl,rfl⟩,⟨rfl,rfl⟩,⟨rfl,rfl⟩,⟨rfl,rfl⟩,⟨aj (by omega),rfl⟩,trivial⟩ ⟨⟨rfl,rfl⟩,⟨congrArg (fun m=>some (Blk.smap m)) KO,rfl⟩,⟨rfl,rfl⟩,⟨congrArg (fun m=>some (Blk.smap m)) qW,rfl⟩,trivial⟩⟩
   | some j =>
    obtain⟨p,hp,hpa⟩:=hok _ j hf;have ht:cT w.zones m x=cC x p:=by unfold cT;rw[hf];dsimp only;rw[hp]
    simp only[Option.map_some,BT hp]
    conv=>whnf
    have yes:cC x p=true->_:=fun h=>again (du x.zone.apex k m) (by rw[if_pos (ht.trans h)])
    have no:cC x p=false->_:=fun h=>again m (by rw[if_neg (by rw[ht.trans h];simp)])
    repeat' (first
     | (refine ae (fun h=>?_) (fun h=>?_) <;> (rw[h];conv=>whnf))
     | fail)
    all_goals first
     | (refine⟨(k+1,du x.zone.apex k m),yes (by unfold cC;simp_all;done),by(show w.zones.length-(k+1)<w.zones.length-k;omega),ah.keep ⟨⟨rfl,rfl⟩,⟨rfl,rfl⟩,⟨rfl,rfl⟩,⟨rfl,rfl⟩,⟨rfl,rfl⟩,⟨aj (by omega),rfl⟩,trivial⟩ ⟨⟨rfl,rfl⟩,⟨congrArg (fun m=>some (Blk.smap m)) KO,rfl⟩,⟨rfl,rfl⟩,⟨congrArg (fun m=>some (Blk.smap m)) qW,rfl⟩,trivial⟩⟩;done)
     | (refine⟨(k+1,m),no (by unfold cC;simp_all;done),by(show w.zones.length-(k+1)<w.zones.length-k;omega),ah.keep ⟨⟨rfl,rfl⟩,⟨rfl,rfl⟩,⟨rfl,rfl⟩,⟨rfl,rfl⟩,⟨rfl,rfl⟩,⟨aj (by omega),rfl⟩,trivial⟩ ⟨⟨rfl,rfl⟩,⟨rfl,rfl⟩,⟨rfl,rfl⟩,⟨rfl,rfl⟩,trivial⟩⟩;done)
 . obtain rfl:k=w.zones.length:=by simp at h1;omega
   rw[List.drop_length]at hinv;obtain rfl:m=bC w.zones:=hinv
   (refine⟨_,_,Mi (ik (mv w.zones) (bC w.zones)),?_⟩;conv=>whnf)
   have hkeys:(ik (mv w.zones) (bC w.zones)).map (·.1)=cY (bC w.zones):=by unfold ik cY;rw[List.map_map];rfl
   (refine⟨_,_,zO (ik (mv w.zones) (bC w.zones)) (by rw[hkeys];exact jN _) hvk (by unfold ik;rw[List.length_map];have:=xp w.zones;omega),?_⟩;conv=>whnf)
   rw[hkeys];exact af rfl rfl
end Go.Proofs.YtcecidfnchcagaaGreatDoor
namespace NP
open NQ Go
theorem Jq:(back [46]).length=0:=by decide
theorem zy(l:List (Bs×Ans))(x:List D)(h:x∈l.map Cv):x.length=2:=by
 obtain⟨p,_,rfl⟩:=List.mem_map.1 h;rfl
theorem ze(zs:List ag)(q:aI):bD zs q=match (iL zs q).find? (fun p=>p.2.kind != 4)with | some p=>(p.2,true) | none=>(jk,false):=EG zs q _ _
end NP
namespace Go.Proofs.YtcecidfnchcagaaGreatDoor
open NQ Go NP Go.RowKit
theorem Ct(zs:List ag)(q:aI)(hg:bU zs)(hq:bu q=true):Ae cx 219 [.ptr (cr zs), .ptr (bX q)] ((iL zs q).map Cv):=by
 refine CZ (fun | 4=>[77777] | _=>[]) aH mixed Tryz.func219 (by kernel_rfl) rfl rfl (Nat.le_of_ble_eq_true rfl) ?_
 conv=>whnf
 refine⟨rfl,?_⟩
 conv=>whnf
 refine⟨Nat×Nat×Bs,fun x=>((x.1,true),⟨[(1, .d (.ptr (cr zs))),(2, .d (.ptr (bX q))),(4, .d (.str x.2.2))],[]⟩),
  fun x=>x.1<=(iL zs q).length/\iK zs q x.2.1 x.2.2=(iL zs q).drop x.1/\ax q.name x.2.2=true/\(back q.name).length+2<=x.2.1+(back x.2.2).length,fun x=>x.2.1,
  ⟨(0,(back q.name).length+2,[46]),⟨Nat.zero_le _,rfl,gQ _,by rw[Jq];exact Nat.le_refl _⟩,rfl,ah.keep ⟨⟨rfl,rfl⟩,⟨rfl,rfl⟩,⟨rfl,rfl⟩,trivial⟩ trivial⟩,fun⟨k,f,a⟩ ⟨hk,hw,hu,hf⟩=>?_⟩
 dsimp only at hk hw hu hf ⊢
 conv=>whnf
 refine⟨rfl,?_⟩
 conv=>whnf
 refine⟨_,mU zs a,?_⟩;cases hc:aN zs a with
 | none =>
  rw[iM hc]at hw;have hk' :k=(iL zs q).length:=by
   have:=congrArg List.length hw;simp at this;omega
  repeat' (first | (refine⟨rfl,?_⟩;conv=>whnf) | fail)
  refine⟨trivial,fun _=>?_⟩;rw[hk',List.length_map]
 | some x =>
  obtain⟨f,rfl⟩:∃g,f=g+1:=⟨f-1,by
   have:=((cZ _ _).1 hu).length_le;omega⟩
  rw[iN hc]at hw;have u:=qm hg hq hu hc;have hget:(iL zs q)[k]? =some (a,(aY x.2.zone q).1):=by
   have:=congrArg (fun l:List (Bs×Ans)=>l[0]?) hw;simp only[List.getElem?_cons_zero,List.getElem?_drop,Nat.add_zero]at this;exact this.symm
  have hkl:=(List.getElem?_eq_some_iff.1 hget).1;have hrest:(if ((aY x.2.zone q).1.kind != 4)=true then[]else iK zs q f (aY x.2.zone q).1.cut)=(iL zs q).drop (k+1):=by
   have:=congrArg List.tail hw;rw[List.tail_cons,List.tail_drop]at this;exact this
  repeat' (first | (refine⟨rfl,?_⟩;conv=>whnf) | (refine⟨_,_,qw x.2.zone q (by have:=(fm u.few).1;omega),?_⟩;conv=>whnf) | fail)
  refine⟨Cv (a,(aY x.2.zone q).1),by rw[List.getElem?_map,hget];rfl,rfl,fun b=>?_⟩
  conv=>whnf
  cases b with
  | true =>
   repeat' (first | (refine⟨rfl,?_⟩;conv=>whnf) | (refine ae (fun h=>?_) (fun h=>?_) <;> (rw[h];conv=>whnf)) | fail)
   . refine⟨trivial,fun _=>?_⟩;rw[if_pos h]at hrest;have:=congrArg List.length hrest;simp at this;rw[List.length_map];show k+1=_;omega
   . rw[if_neg (by rw[show((aY x.2.zone q).1.kind != 4)=false from h];simp)]at hrest;obtain⟨d1,d2,_⟩:=eP u h;rw[(kN hc).2]at d2;exact⟨(k+1,f,(aY x.2.zone q).1.cut),⟨hkl,hrest,d1,by dsimp only;omega⟩,by(show f<f+1;omega),rfl,ah.keep ⟨⟨rfl,rfl⟩,⟨rfl,rfl⟩,⟨rfl,rfl⟩,trivial⟩ trivial⟩
  | false =>
   repeat' (first | (refine⟨rfl,?_⟩;conv=>whnf) | fail)
   exact⟨trivial,fun h=>by cases h⟩
theorem I9(zs:List ag)(q:aI):NQ.Fn cx 159 [.agg (cr zs), .agg (bX q)] (.d (.fn 219 [] [.ptr (cr zs), .ptr (bX q)])) []:=by
 refine av aH mixed Tryz.func159 (by kernel_rfl) rfl (Nat.le_of_ble_eq_true rfl) ?_;conv=>whnf
 exact af rfl rfl
end Go.Proofs.YtcecidfnchcagaaGreatDoor
namespace NQ
theorem pV{fx:List Nat}{h:List (Nat×Blk)}(e:fx.all (fun s=>(find h s).isSome)=true):∀s∈fx,live h s:=fun s hs=>List.all_eq_true.1 e s hs
theorem GR{fx:List Nat}{h:List (Nat×Blk)}(e:fx.all (fun s=>Nat.ble 100000 s&&(match find h s with | some b=>w7 b | none=>false))=true):∀s∈fx,100000<=s/\ ∃b,find h s=some b/\w7 b=true:=fun s hs=>by
 have:=List.all_eq_true.1 e s hs;rw[Bool.and_eq_true]at this;refine⟨Nat.le_of_ble_eq_true this.1,?_⟩;have h2:=this.2;split at h2
 . rename_i b e;exact⟨b,e,h2⟩
 . cases h2
end NQ
namespace NP
open NQ Go
theorem Cu{zs:List ag}{q:aI}:∀(f:Nat) (a:Bs) (p:Bs×Ans),p∈iK zs q f a->(p.2.kind != 4)=true->(iK zs q f a).find? (fun p=>p.2.kind != 4)=some p
 | 0,a,p,hp,_=>by cases hp
 | f+1,a,p,hp,hk=>by
  cases h:aN zs a with
  | none=>rw[iM h]at hp;cases hp
  | some x =>
   rw[iN h]at hp ⊢;cases hx:((aY x.2.zone q).1.kind != 4)with
   | true =>
    rw[hx,if_pos rfl]at hp;rw[List.find?_cons_of_pos (p:=fun p:Bs×Ans=>p.2.kind != 4) hx,List.mem_singleton.1 hp]
   | false =>
    rw[hx,if_neg (by simp)]at hp;rw[List.find?_cons_of_neg (p:=fun p:Bs×Ans=>p.2.kind != 4) (by simp[hx]),if_neg (by simp)];rcases List.mem_cons.1 hp with rfl | hp
    . rw[hx]at hk;cases hk
    . exact Cu f _ p hp hk
theorem Cs{zs:List ag}{q:aI}(hg:bU zs)(hq:bu q=true):∀(f:Nat) (a:Bs),ax q.name a=true-> ∀p∈iK zs q f a,(p.2.kind != 4)=false->(back a).length<(back p.2.cut).length
 | 0,a,_,p,hp,_=>by cases hp
 | f+1,a,hu,p,hp,hk=>by
  cases h:aN zs a with
  | none=>rw[iM h]at hp;cases hp
  | some x =>
   rw[iN h]at hp;have u:=qm hg hq hu h;rcases List.mem_cons.1 hp with rfl | hp
   . obtain⟨_,d2,_⟩:=eP u hk;rw[(kN h).2]at d2;exact d2
   . cases hx:((aY x.2.zone q).1.kind != 4)with
     | true=>rw[hx,if_pos rfl]at hp;cases hp
     | false =>
      rw[hx,if_neg (by simp)]at hp;obtain⟨d1,d2,_⟩:=eP u hx;rw[(kN h).2]at d2;have:=Cs hg hq f _ d1 p hp hk;omega
theorem EH{zs:List ag}{q:aI}(hg:bU zs)(hq:bu q=true){c:Bs}:∀(f:Nat) (a:Bs),ax q.name a=true-> ∀p∈iK zs q f a,gI c p=true->(iK zs q f a).find? (gI c)=some p
 | 0,a,_,p,hp,_=>by cases hp
 | f+1,a,hu,p,hp,hk=>by
  cases h:aN zs a with
  | none=>rw[iM h]at hp;cases hp
  | some x =>
   rw[iN h]at hp ⊢;have u:=qm hg hq hu h;cases hx:((aY x.2.zone q).1.kind != 4)with
   | true =>
    rw[hx,if_pos rfl]at hp;rw[List.mem_singleton.1 hp]at hk ⊢;rw[List.find?_cons_of_pos hk]
   | false =>
    rw[hx,if_neg (by simp)]at hp;rw[if_neg (by simp)];obtain⟨d1,d2,_⟩:=eP u hx;rcases List.mem_cons.1 hp with rfl | hp
    . rw[List.find?_cons_of_pos hk]
    . have hk' :=hk;unfold gI at hk';simp only[Bool.and_eq_true,beq_iff_eq]at hk';have:=Cs hg hq f _ d1 p hp (by rw[hk'.1];rfl);rw[List.find?_cons_of_neg,EH hg hq f _ d1 p hp hk];intro hc;unfold gI at hc;simp only[Bool.and_eq_true,beq_iff_eq]at hc;rw[hk'.2,hc.2]at this;omega
def pP:Option (Bs×Ans)->Bs×Ans×Bool
 | some p=>(p.1,p.2,true)
 | none=>([],jk,false)
end NP
namespace Go.Proofs.YtcecidfnchcagaaGreatDoor
open NQ Go NP Go.RowKit
theorem Fk(zs:List ag)(q:aI)(hg:bU zs)(hq:bu q=true):NQ.Fn cx 93 [.agg (cr zs), .agg (bX q)] (.tuple [.agg ((dY (bD zs q).1).map .d), .d (.bool (bD zs q).2)]) []:=by
 refine sv (fun _=>[]) aH mixed Tryz.func93 (by kernel_rfl) rfl (Nat.le_of_ble_eq_true rfl) ?_
 conv=>whnf
 (refine⟨_,_,I9 zs q,?_⟩;conv=>whnf)
 refine⟨219,_,_,[(4, .ptr 100004 0),(5, .ptr 100005 0),(10, .d (.fn 219 [] [.ptr (cr zs), .ptr (bX q)]))],
  fun _=>[(100004, .box [.d (.int .i64 0), .nil 5, .d (.str [])]),(100005, .box [.d (.bool false)])],[100004,100005],
  fun k=> ∀j p,j<k->(iL zs q)[j]? =some p->(p.2.kind != 4)=false,
  (kB.ren [4,5] (by kernel_rfl)).trans (ah.zero (ah.keep ⟨⟨(by kernel_rfl),(by kernel_rfl)⟩,⟨(by kernel_rfl),(by kernel_rfl)⟩,⟨(by kernel_rfl),(by kernel_rfl)⟩,trivial⟩ ⟨⟨(by kernel_rfl),(by kernel_rfl)⟩,⟨(by kernel_rfl),(by kernel_rfl)⟩,trivial⟩)),
  ⟨rfl,Ct zs q hg hq,zy _,rfl,rfl⟩,⟨Nat.le_of_ble_eq_true rfl,GR (by kernel_rfl),rfl,by kernel_rfl⟩,fun j p h=>by omega,fun k x hx hN=>?_,fun hN=>?_⟩
 . rw[List.getElem?_map]at hx;cases hp:(iL zs q)[k]? with
   | none=>rw[hp]at hx;cases hx
   | some p =>
    rw[hp]at hx;cases hx
    conv=>whnf
    refine ae (fun h1=>?_) (fun h1=>?_) <;> (rw[h1];conv=>whnf)
    . refine⟨[(100004, .box ((dY p.2).map .d)),(100005, .box [.d (.bool true)])],ah.keep trivial ⟨⟨(by kernel_rfl),(by kernel_rfl)⟩,⟨(by kernel_rfl),(by kernel_rfl)⟩,trivial⟩,pV (by kernel_rfl),af rfl ?_⟩;have e:bD zs q=(p.2,true):=by
       rw[ze];have:=Cu _ _ p (List.mem_of_getElem? hp) h1;unfold iL;rw[this]
      rw[e];rfl
    . refine⟨⟨ah.keep trivial ⟨⟨(by kernel_rfl),(by kernel_rfl)⟩,⟨(by kernel_rfl),(by kernel_rfl)⟩,trivial⟩,pV (by kernel_rfl)⟩,fun j r hj hr=>?_⟩;rcases Nat.lt_succ_iff_lt_or_eq.1 hj with hj | rfl
      . exact hN j r hj hr
      . rw[hp]at hr;cases hr;exact h1
 . conv=>whnf
   refine af rfl ?_;have e:bD zs q=(jk,false):=by
    rw[ze];have:(iL zs q).find? (fun p=>p.2.kind != 4)=none:=List.find?_eq_none.2 fun p hp=>by
     obtain⟨j,hj⟩:=List.getElem?_of_mem hp;rw[hN j p (by rw[List.length_map];exact(List.getElem?_eq_some_iff.1 hj).1) hj];simp
    rw[this]
   rw[e];rfl
set_option maxHeartbeats 1000000 in
theorem yE(zs:List ag)(a:Bs)(hg:bU zs)(ha:ai a=true) :
 NQ.Fn cx 144 [.agg (cr zs), .str a] (.tuple [.d (.str (pP (b5 zs a)).1), .agg ((dY (pP (b5 zs a)).2.1).map .d), .d (.bool (pP (b5 zs a)).2.2)]) []:=by
 refine sv (fun | 7=>[55555,66666] | _=>[]) aH mixed Tryz.func144 (by kernel_rfl) rfl (Nat.le_of_ble_eq_true rfl) ?_
 conv=>whnf
 refine ae (fun h0=>?_) (fun h0=>?_) <;> (rw[h0];conv=>whnf)
 . have e:b5 zs a=none:=by unfold b5;rw[if_pos (by simpa using h0)]
   rw[e];exact af rfl rfl
 have hne:a ≠ [46]:=by simpa using h0
 have hd:b5 zs a=(iL zs ⟨a,2⟩).find? (gI a):=by unfold b5;rw[if_neg hne]
 have hq:bu ⟨a,2⟩=true:=sU ha
 (refine⟨_,_,I9 zs ⟨a,2⟩,?_⟩;conv=>whnf)
 refine⟨219,_,_,[(3, .ptr 100003 0),(4, .ptr 100004 0),(5, .ptr 100005 0),(6, .ptr 100006 0),(15, .d (.fn 219 [] [.ptr (cr zs), .ptr (bX ⟨a,2⟩)]))],
  fun _=>[(100003, .box [.d (.str a)]),(100004, .box [.d (.str [])]),(100005, .box [.d (.int .i64 0), .nil 5, .d (.str [])]),(100006, .box [.d (.bool false)])],[100003,100004,100005,100006],
  fun k=> ∀j p,j<k->(iL zs ⟨a,2⟩)[j]? =some p->gI a p=false,
  (kB.ren [3,4,5,6] (by kernel_rfl)).trans (ah.zero (ah.keep ⟨⟨(by kernel_rfl),(by kernel_rfl)⟩,⟨(by kernel_rfl),(by kernel_rfl)⟩,⟨(by kernel_rfl),(by kernel_rfl)⟩,⟨(by kernel_rfl),(by kernel_rfl)⟩,⟨(by kernel_rfl),(by kernel_rfl)⟩,trivial⟩ ⟨⟨(by kernel_rfl),(by kernel_rfl)⟩,⟨(by kernel_rfl),(by kernel_rfl)⟩,⟨(by kernel_rfl),(by kernel_rfl)⟩,⟨(by kernel_rfl),(by kernel_rfl)⟩,trivial⟩)),
  ⟨rfl,Ct zs _ hg hq,zy _,rfl,rfl⟩,⟨Nat.le_of_ble_eq_true rfl,GR (by kernel_rfl),rfl,by kernel_rfl⟩,fun j p h=>by omega,fun k x hx hN=>?_,fun hN=>?_⟩
 . rw[List.getElem?_map]at hx;cases hp:(iL zs ⟨a,2⟩)[k]? with
   | none=>rw[hp]at hx;cases hx
   | some p =>
    rw[hp]at hx;cases hx;have next:gI a p=false-> ∀j r,j<k+1->(iL zs ⟨a,2⟩)[j]? =some r->gI a r=false:=fun hc j r hj hr=>by
     rcases Nat.lt_succ_iff_lt_or_eq.1 hj with hj | rfl
     . exact hN j r hj hr
     . rw[hp]at hr;cases hr;exact hc
    have yes:gI a p=true->b5 zs a=some p:=fun hc=>by
     rw[hd];unfold iL;exact EH hg hq _ _ (gQ _) p (List.mem_of_getElem? hp) hc
    conv=>whnf
    refine ae (fun h1=>?_) (fun h1=>?_) <;> (rw[h1];conv=>whnf)
    case refine_2 =>
     exact⟨⟨ah.keep trivial ⟨⟨(by kernel_rfl),(by kernel_rfl)⟩,⟨(by kernel_rfl),(by kernel_rfl)⟩,⟨(by kernel_rfl),(by kernel_rfl)⟩,⟨(by kernel_rfl),(by kernel_rfl)⟩,trivial⟩,pV (by kernel_rfl)⟩,next (by unfold gI;rw[show(p.2.kind==4)=false from h1];rfl)⟩
    refine ae (fun h2=>?_) (fun h2=>?_) <;> (rw[h2];conv=>whnf)
    case refine_2 =>
     exact⟨⟨ah.keep trivial ⟨⟨(by kernel_rfl),(by kernel_rfl)⟩,⟨(by kernel_rfl),(by kernel_rfl)⟩,⟨(by kernel_rfl),(by kernel_rfl)⟩,⟨(by kernel_rfl),(by kernel_rfl)⟩,trivial⟩,pV (by kernel_rfl)⟩,next (by unfold gI;rw[show(p.2.cut==a)=false from h2];exact Bool.and_false _)⟩
    refine⟨⟨[(3, .ptr 100003 0),(4, .ptr 100004 0),(5, .ptr 100005 0),(6, .ptr 100006 0),(7, .d (.str p.1)),(8, .ptr 8 0)],[(100003, .box [.d (.str a)]),(100004, .box [.d (.str [])]),(100005, .box [.d (.int .i64 0), .nil 5, .d (.str [])]),(100006, .box [.d (.bool false)]),(8, .box ((dY p.2).map .d))]⟩,
     ah.keep ⟨⟨(by kernel_rfl),(by kernel_rfl)⟩,⟨(by kernel_rfl),(by kernel_rfl)⟩,⟨(by kernel_rfl),(by kernel_rfl)⟩,⟨(by kernel_rfl),(by kernel_rfl)⟩,⟨(by kernel_rfl),(by kernel_rfl)⟩,⟨(by kernel_rfl),(by kernel_rfl)⟩,trivial⟩ ⟨⟨(by kernel_rfl),(by kernel_rfl)⟩,⟨(by kernel_rfl),(by kernel_rfl)⟩,⟨(by kernel_rfl),(by kernel_rfl)⟩,⟨(by kernel_rfl),(by kernel_rfl)⟩,⟨(by kernel_rfl),(by kernel_rfl)⟩,trivial⟩,?_⟩
    conv=>whnf
    (refine⟨(by kernel_rfl:jS _=true),?_⟩;conv=>whnf)
    have fin : ∀ st, ah cx st ⟨[], [(100003, .box [.d (.str a)]), (100004, .box [.d (.str p.1)]), (100005, .box ((dY p.2).map .d)), (100006, .box [.d (.bool true)])]⟩ -> ∃ hx, ah cx st ⟨[], hx⟩ /\ (∀ s ∈ [100003, 100004, 100005, 100006], live hx s) /\
        sX cx Tryz.f144.results.toList (.tuple [.d (.str (pP (b5 zs a)).1), .agg ((dY (pP (b5 zs a)).2.1).map .d), .d (.bool (pP (b5 zs a)).2.2)]) [] ⟨[(3, .ptr 100003 0),(4, .ptr 100004 0),(5, .ptr 100005 0),(6, .ptr 100006 0),(15, .d (.fn 219 [] [.ptr (cr zs), .ptr (bX ⟨a,2⟩)]))],hx⟩:=fun st hst=>by
     refine⟨_,hst,pV (by kernel_rfl),af rfl ?_⟩;rw[yes (by unfold gI;rw[show(p.2.kind==4)=true from h1,show(p.2.cut==a)=true from h2];rfl)];rfl
    repeat' (first
     | (exact fin _ (ah.keep trivial ⟨⟨(by kernel_rfl),(by kernel_rfl)⟩,⟨(by kernel_rfl),(by kernel_rfl)⟩,⟨(by kernel_rfl),(by kernel_rfl)⟩,⟨(by kernel_rfl),(by kernel_rfl)⟩,trivial⟩))
     | (refine⟨by kernel_rfl,?_⟩;conv=>whnf)
     | (refine⟨?_,?_⟩ <;> (conv=>whnf))
     | fail)
 . conv=>whnf
   refine af rfl ?_;have e:b5 zs a=none:=by
    rw[hd];exact List.find?_eq_none.2 fun p hp=>by
     obtain⟨j,hj⟩:=List.getElem?_of_mem hp;rw[hN j p (by rw[List.length_map];exact(List.getElem?_eq_some_iff.1 hj).1) hj];simp
   rw[e];rfl
theorem AY(zs:List ag)(s:Bs)(hv:ai s=true):NQ.Fn cx 146 [.agg (cr zs), .str s] (.tuple [.d (.str ((fq zs s).getD [])), .d (.bool (fq zs s).isSome)]) []:=by
 refine av aH mixed Tryz.func146 (by kernel_rfl) rfl (Nat.le_of_ble_eq_true rfl) ?_;conv=>whnf
 refine⟨Bs,fun n=>⟨[(1, .d (.str n)),(2, .ptr 2 0)],[(2, .box ((cr zs).map .d))]⟩,
  fun n=>ai n=true/\mc zs ((aM n).length+1) n=fq zs s,fun n=>(aM n).length,
  ⟨s,⟨hv,rfl⟩,ah.keep ⟨⟨rfl,rfl⟩,⟨rfl,rfl⟩,trivial⟩ ⟨⟨rfl,rfl⟩,trivial⟩⟩,fun n ⟨hvn,hn⟩=>?_⟩
 dsimp only at hvn hn ⊢
 conv=>whnf
 refine⟨_,mU zs n,?_⟩;unfold mc at hn;cases hc:aN zs n with
 | some x =>
  have hn:some n=fq zs s:=by rw[if_pos (by rw[hc];rfl)]at hn;exact hn
  conv=>whnf
  refine af rfl ?_;rw[<- hn];rfl
 | none =>
  have hn:(if n=[46]then none else mc zs (aM n).length (bT n))=fq zs s:=by rw[if_neg (by rw[hc];simp)]at hn;exact hn
  conv=>whnf
  (refine⟨_,_,rK n,?_⟩;conv=>whnf)
  by_cases h46:n=[46]
  . rw[if_pos h46]at hn;have hp:dj n=([],4):=by unfold dj;rw[if_pos hvn,if_pos h46]
    rw[hp]
    conv=>whnf
    refine af rfl ?_;rw[<- hn];rfl
  . rw[if_neg h46]at hn;have hp:dj n=(bT n,0):=by unfold dj;rw[if_pos hvn,if_neg h46]
    rw[hp]
    conv=>whnf
    obtain⟨_,_,h3⟩:=lZ hvn (gQ n) h46;exact⟨bT n,⟨ia hvn,by rw[h3];exact hn⟩,by(show(aM (bT n)).length<(aM n).length;omega),ah.keep ⟨⟨rfl,rfl⟩,⟨rfl,rfl⟩,trivial⟩ ⟨⟨rfl,rfl⟩,trivial⟩⟩
end Go.Proofs.YtcecidfnchcagaaGreatDoor
namespace NP
open NQ Go
def iS(cut:Bs)(s:Signed):Bool:=(s.set.type==2)&&(s.set.name==cut)
def fg(cut:Bs)(l:List Signed):List Bs:=(l.filter (iS cut)).flatMap fun s=>s.set.data.map (·.text)
theorem uB(cut:Bs)(l:List Signed)(s:Signed):fg cut (l++[s])=fg cut l++(if iS cut s=true then s.set.data.map (·.text)else[]):=by
 unfold fg;rw[List.filter_append,List.flatMap_append];by_cases h:iS cut s=true
 . rw[if_pos h,List.filter_cons_of_pos h];simp
 . rw[if_neg h,List.filter_cons_of_neg h];simp
theorem wL(cut:Bs):∀l:List Signed,(∀s∈l,s.set.data.length<=100)->(fg cut l).length<=100*l.length
 | [],_=>by simp[fg]
 | s::t,h=>by
  have ih:=wL cut t fun x hx=>h x (List.mem_cons_of_mem _ hx)
  have hs:=h s (List.mem_cons_self ..);unfold fg at ih ⊢;by_cases e:iS cut s=true
  . rw[List.filter_cons_of_pos e,List.flatMap_cons];simp only[List.length_append,List.length_map,List.length_cons];omega
  . rw[List.filter_cons_of_neg e];simp only[List.length_cons];omega
def gV(l:List Signed):List (Bs×D):=l.foldl (fun m s=>if (s.set.type==1)=true then bM s.set.name (.bool true) m else m) []
theorem wG(l:List Signed)(s:Signed):gV (l++[s])=if (s.set.type==1)=true then bM s.set.name (.bool true) (gV l)else gV l:=by unfold gV;rw[List.foldl_append];rfl
theorem Bd(n:Bs):∀(l:List Signed) (m:List (Bs×D)),bJ n (l.foldl (fun m s=>if (s.set.type==1)=true then bM s.set.name (.bool true) m else m) m)=if (l.any fun s=>(s.set.type==1)&&(s.set.name==n))=true then some (.bool true)else bJ n m
 | [],m=>by simp
 | s::t,m=>by
  rw[List.foldl_cons,Bd n t,List.any_cons];cases ht:t.any fun s=>(s.set.type==1)&&(s.set.name==n)with
  | true=>rw[Bool.or_true];rfl
  | false =>
   rw[Bool.or_false,if_neg (by simp)];cases h1:(s.set.type==1)with
   | true =>
    rw[if_pos rfl,ri,Bool.true_and];by_cases hn:n=s.set.name
    . rw[if_pos hn,hn];simp
    . rw[if_neg hn,if_neg (by simp;exact fun e=>hn e.symm)]
   | false=>rw[if_neg (by simp),Bool.false_and];simp
theorem Fu(a:Ans)(n:Bs):bJ n (gV a.sets)=if dZ a n=true then some (.bool true)else none:=by
 unfold gV;rw[Bd];rfl
theorem yf(a:Bs):∀m:List (Bs×D),fj (.str a) (m.map fy)=some (bJ a m)
 | []=>rfl
 | (b,v)::t=>by
  show(match eH (.str a) [.tuple [.str b]]with | some true=>_ | some false=>fj (.str a) (t.map fy) | none=>none)=_
  have:eH (.str a) [.tuple [.str b]]=some (a==b):=rfl;rw[this];show _=some (if a=b then some v else bJ a t)
  by_cases h:a=b
  . subst h;simp
  . have:(a==b)=false:=by simp[h]
    rw[this,if_neg h];exact yf a t
theorem Be(a:Ans)(n:Bs):fj (.str n) ((gV a.sets).map fy)=some (if dZ a n=true then some (.bool true)else none):=by rw[yf,Fu]
theorem FN(zs:List ag)(a:Ans)(l:List Bs)(n:Bs):gK zs a (l++[n])=gK zs a l++(match (if dZ a n=true then none else fq zs n)with | some h=>[h] | none=>[]):=by
 unfold gK;rw[List.filterMap_append]
 congr 1
 rw[List.filterMap_cons];split <;> simp_all
theorem yW(zs:List ag)(a:Ans)(l:List Bs):(gK zs a l).length<=l.length:=List.length_filterMap_le _ _
theorem Dh{zs:List ag}(hg:bU zs){a:Ans}{l:List Bs}(hl:∀n∈l,ai n=true):∀b∈gK zs a l,ai b=true:=fun b hb=>by
 unfold gK at hb;obtain⟨n,hn,hx⟩:=List.mem_filterMap.1 hb;split at hx
 . cases hx
 . exact dW hg (Bh (hl n hn) hx)
structure Jd(a:Ans):Prop where
 sets:a.sets.length<=1000
 data:∀s∈a.sets,s.set.data.length<=100
theorem J0{z:aA}(hf:fY z=true)(q:aI):Jd (aY z q).1:=⟨DK hf q,fun s hs=>by have:=((fm hf).2 s (LN hf q s hs)).1;omega⟩
theorem wB{zs:List ag}(hg:bU zs){a:Bs}(ha:ai a=true){p:Bs×Ans}(h:b5 zs a=some p):Jd p.2:=by
 obtain⟨_,_,_,_,x,_,_,_,h2,u,_⟩:=AT hg ha h;rw[h2];exact J0 u.few _
end NP
namespace Go.Proofs.YtcecidfnchcagaaGreatDoor
open NQ Go NP Go.RowKit
set_option maxHeartbeats 1000000 in
theorem Bi(a:Ans)(hF:Jd a):NQ.Fn cx 145 [.agg (dY a)] (.tuple [.d (.slice 1 ((dD a).map ao)), .d (.kmap ((gV a.sets).map fy))]) []:=by
 refine av aH mixed Tryz.func145 (by kernel_rfl) rfl (Nat.le_of_ble_eq_true rfl) ?_;conv=>whnf
 have hlen:∀k,(fg a.cut (a.sets.take k)).length<=100000:=fun k=>by
  have:=wL a.cut (a.sets.take k) fun s hs=>hF.data s (List.mem_of_mem_take hs)
  have h1:=List.length_take_le' k a.sets;have h2:=hF.sets;omega
 refine ⟨Nat, fun k => ⟨[(1, .ptr 1 0), (4, .own 4), (5, .omap 10), (12, .d (.slice 5 (a.sets.map ay))), (13, .d (.int .i64 ((a.sets.map ay).length : Int))), (14, .d (.int .i64 k))],
     [(1, .box ((dY a).map .d)),(4, .row 9 1 ((fg a.cut (a.sets.take k)).map ao)),(10, .smap (gV (a.sets.take k)))]⟩,fun k=>k<=a.sets.length,fun k=>a.sets.length-k,
  ⟨0,Nat.zero_le _,(ah.j6 4 4 1 9 1 rfl rfl (by decide)).trans (ah.keep ⟨⟨rfl,rfl⟩,⟨rfl,rfl⟩,⟨rfl,rfl⟩,⟨rfl,rfl⟩,⟨rfl,rfl⟩,⟨rfl,rfl⟩,trivial⟩ ⟨⟨rfl,rfl⟩,⟨rfl,rfl⟩,⟨rfl,rfl⟩,trivial⟩)⟩,fun k hk=>?_⟩
 dsimp only at hk ⊢
 conv=>whnf
 refine ae (fun h1=>?_) (fun h1=>?_) <;> (rw[h1];conv=>whnf)
 case refine_2 =>
  obtain rfl:k=a.sets.length:=by simp at h1;omega
  rw[List.take_length];exact af rfl rfl
 have hlt:k<a.sets.length:=by simpa using h1
 obtain⟨s,hs⟩:∃s,a.sets[k]? =some s:=⟨_,List.getElem?_eq_getElem hlt⟩
 have hsd:=hF.data s (List.mem_of_getElem? hs);have hsl:=hF.sets;have g1:(s.set.type==1)=true->gV (a.sets.take (k+1))=bM s.set.name (.bool true) (gV (a.sets.take k)):=fun h=>by rw[aS hs,wG,if_pos h]
 have g0:(s.set.type==1)=false->gV (a.sets.take (k+1))=gV (a.sets.take k):=fun h=>by rw[aS hs,wG,if_neg (by rw[h];simp)]
 have n1:iS a.cut s=true->fg a.cut (a.sets.take (k+1))=fg a.cut (a.sets.take k)++s.set.data.map (·.text):=fun h=>by rw[aS hs,uB,if_pos h]
 have n0:iS a.cut s=false->fg a.cut (a.sets.take (k+1))=fg a.cut (a.sets.take k):=fun h=>by rw[aS hs,uB,if_neg (by rw[h];simp),List.append_nil]
 refine⟨Int.natCast_nonneg k,ay s,az hs,?_⟩
 conv=>whnf
 refine ae (fun h2=>?_) (fun h2=>?_) <;> (rw[h2];conv=>whnf)
 . have hn:iS a.cut s=false:=by
    have e:s.set.type=1:=by simpa using h2
    unfold iS;rw[e];rfl
   refine ae (fun h3=>?_) (fun h3=>?_) <;> (rw[h3];conv=>whnf)
   . exfalso
     have e1:s.set.type=1:=by simpa using h2
     have e2:s.set.type=2:=by simpa using h3
     omega
   . refine⟨k+1,hlt,by(show a.sets.length-(k+1)<a.sets.length-k;omega),ah.keep ⟨⟨rfl,rfl⟩,⟨rfl,rfl⟩,⟨rfl,rfl⟩,⟨rfl,rfl⟩,⟨rfl,rfl⟩,⟨aj (by omega),rfl⟩,trivial⟩ ⟨⟨rfl,rfl⟩,⟨?_,rfl⟩,⟨?_,rfl⟩,trivial⟩⟩
     . rw[n0 hn];rfl
     . rw[g1 h2];rfl
 . refine ae (fun h3=>?_) (fun h3=>?_) <;> (rw[h3];conv=>whnf)
   case refine_2 =>
    refine⟨k+1,hlt,by(show a.sets.length-(k+1)<a.sets.length-k;omega),ah.keep ⟨⟨rfl,rfl⟩,⟨rfl,rfl⟩,⟨rfl,rfl⟩,⟨rfl,rfl⟩,⟨rfl,rfl⟩,⟨aj (by omega),rfl⟩,trivial⟩ ⟨⟨rfl,rfl⟩,⟨?_,rfl⟩,⟨?_,rfl⟩,trivial⟩⟩
    . rw[n0 (by unfold iS;rw[show(s.set.type==2)=false from h3];rfl)];rfl
    . rw[g0 h2];rfl
   refine ae (fun h4=>?_) (fun h4=>?_) <;> (rw[h4];conv=>whnf)
   case refine_2 =>
    refine⟨k+1,hlt,by(show a.sets.length-(k+1)<a.sets.length-k;omega),ah.keep ⟨⟨rfl,rfl⟩,⟨rfl,rfl⟩,⟨rfl,rfl⟩,⟨rfl,rfl⟩,⟨rfl,rfl⟩,⟨aj (by omega),rfl⟩,trivial⟩ ⟨⟨rfl,rfl⟩,⟨?_,rfl⟩,⟨?_,rfl⟩,trivial⟩⟩
    . rw[n0 (by unfold iS;rw[show(s.set.name==a.cut)=false from h4];exact Bool.and_false _)];rfl
    . rw[g0 h2];rfl
   have hsv:iS a.cut s=true:=by unfold iS;rw[show(s.set.type==2)=true from h3,show(s.set.name==a.cut)=true from h4];rfl
   refine ⟨Nat, fun j => ⟨[(1, .ptr 1 0), (4, .own 4), (5, .omap 10), (12, .d (.slice 5 (a.sets.map ay))), (13, .d (.int .i64 ((a.sets.map ay).length : Int))), (14, .d (.int .i64 k)), (40, .d (.slice 3 (s.set.data.map bG))), (41, .d (.int .i64 ((s.set.data.map bG).length : Int))), (42, .d (.int .i64 j))],
       [(1, .box ((dY a).map .d)),(4, .row 9 1 ((fg a.cut (a.sets.take k)++(s.set.data.take j).map (·.text)).map ao)),(10, .smap (gV (a.sets.take k)))]⟩,fun j=>j<=s.set.data.length,fun j=>s.set.data.length-j,
    ⟨0,Nat.zero_le _,ah.keep ⟨⟨rfl,rfl⟩,⟨rfl,rfl⟩,⟨rfl,rfl⟩,⟨rfl,rfl⟩,⟨rfl,rfl⟩,⟨rfl,rfl⟩,⟨rfl,rfl⟩,⟨rfl,rfl⟩,⟨rfl,rfl⟩,trivial⟩ ⟨⟨rfl,rfl⟩,⟨?_,rfl⟩,⟨rfl,rfl⟩,trivial⟩⟩,fun j hj=>?_⟩
   . show _=some (Blk.row _ _ ((fg a.cut (a.sets.take k)++[]).map ao) _)
     rw[List.append_nil];rfl
   dsimp only at hj ⊢
   conv=>whnf
   refine ae (fun h5=>?_) (fun h5=>?_) <;> (rw[h5];conv=>whnf)
   . have hjl:j<s.set.data.length:=by simpa using h5
     obtain⟨d,hd⟩:∃d,s.set.data[j]? =some d:=⟨_,List.getElem?_eq_getElem hjl⟩
     have:=hlen k;refine⟨Int.natCast_nonneg j,bG d,az hd,?_⟩
     conv=>whnf
     refine⟨by(show((fg a.cut (a.sets.take k)++(s.set.data.take j).map (·.text)).map ao).length+1<=_);simp;omega,by(show(((fg a.cut (a.sets.take k)++(s.set.data.take j).map (·.text)).map ao).length+1)*16<=_);simp;omega,?_⟩
     conv=>whnf
     refine⟨j+1,hjl,by(show s.set.data.length-(j+1)<s.set.data.length-j;omega),ah.keep ⟨⟨rfl,rfl⟩,⟨rfl,rfl⟩,⟨rfl,rfl⟩,⟨rfl,rfl⟩,⟨rfl,rfl⟩,⟨rfl,rfl⟩,⟨rfl,rfl⟩,⟨rfl,rfl⟩,⟨aj (by omega),rfl⟩,trivial⟩ ⟨⟨rfl,rfl⟩,⟨?_,rfl⟩,⟨rfl,rfl⟩,trivial⟩⟩;rw[aS hd];simp only[List.map_append,List.append_assoc];rfl
   . obtain rfl:j=s.set.data.length:=by simp at h5;omega
     refine⟨k+1,hlt,by(show a.sets.length-(k+1)<a.sets.length-k;omega),ah.keep ⟨⟨rfl,rfl⟩,⟨rfl,rfl⟩,⟨rfl,rfl⟩,⟨rfl,rfl⟩,⟨rfl,rfl⟩,⟨aj (by omega),rfl⟩,trivial⟩ ⟨⟨rfl,rfl⟩,⟨?_,rfl⟩,⟨?_,rfl⟩,trivial⟩⟩
     . rw[n1 hsv,List.take_length];rfl
     . rw[g0 h2];rfl
noncomputable def cxL:Cx:={cx with chg:=fun g=>match Nat.beq g 157 with | true=>2 | false=>(match Nat.beq g 158 with | true=>1 | false=>cx.chg g)}
theorem tyL:aO cxL:=aH
theorem Nj:cxL.P.follows .mixedOrders=true:=mixed
set_option maxHeartbeats 1000000 in
theorem BB(zs:List ag)(a:Bs)(hg:bU zs)(ha:ai a=true):NQ.Fn cx 89 [.agg (cr zs), .str a] (.d (.slice 1 ((aK zs a).map ao))) []:=by
 show NQ.Fn cxL _ _ _ _
 refine cw (fun _=>[]) tyL Nj Tryz.func89 (by kernel_rfl) rfl (Nat.le_of_ble_eq_true rfl) ?_
 conv=>whnf
 (refine⟨_,_,yE zs a hg ha,?_⟩;conv=>whnf)
 cases hd:b5 zs a with
 | none =>
  have e:aK zs a=[]:=by unfold aK;rw[hd]
  rw[e]
  conv=>whnf
  exact af rfl rfl
 | some p =>
  have e:aK zs a=Lib.compact (gO (gK zs p.2 (dD p.2))):=by unfold aK;rw[hd]
  obtain⟨_,_,_,_,hv,hl⟩:=qJ hg ha hd;rw[e]
  conv=>whnf
  (refine⟨_,_,Bi p.2 (wB hg ha hd),?_⟩;conv=>whnf)
  generalize dD p.2=hs at hv hl ⊢
  refine ⟨Nat, fun k => ⟨[(2, .ptr 2 0), (9, .d (.kmap ((gV p.2.sets).map fy))), (10, .own 10), (29, .d (.slice 1 (hs.map ao))), (30, .d (.int .i64 ((hs.map ao).length : Int))), (31, .d (.int .i64 k))],
      [(2, .box ((cr zs).map .d)),(10, .row 9 1 ((gK zs p.2 (hs.take k)).map ao))]⟩,fun k=>k<=hs.length,fun k=>hs.length-k,
   ⟨0,Nat.zero_le _,(ah.j6 10 10 1 9 1 rfl rfl (by decide)).trans (ah.keep ⟨⟨rfl,rfl⟩,⟨rfl,rfl⟩,⟨rfl,rfl⟩,⟨rfl,rfl⟩,⟨rfl,rfl⟩,⟨rfl,rfl⟩,trivial⟩ ⟨⟨rfl,rfl⟩,⟨rfl,rfl⟩,trivial⟩)⟩,fun k hk=>?_⟩
  dsimp only at hk ⊢
  conv=>whnf
  refine ae (fun h1=>?_) (fun h1=>?_) <;> (rw[h1];conv=>whnf)
  . have hlt:k<hs.length:=by simpa using h1
    obtain⟨n,hn⟩:∃n,hs[k]? =some n:=⟨_,List.getElem?_eq_getElem hlt⟩
    have hnl:(gK zs p.2 (hs.take k)).length<=20:=by
     have:=yW zs p.2 (hs.take k);have:=List.length_take_le' k hs;omega
    refine⟨Int.natCast_nonneg k,ao n,az hn,?_⟩
    conv=>whnf
    (refine⟨_,_,AY zs n (hv n (List.mem_of_getElem? hn)),?_⟩;conv=>whnf)
    have hnext:=FN zs p.2 (hs.take k) n;rw[<- aS hn]at hnext;cases hh:fq zs n with
    | none =>
     conv=>whnf
     refine⟨k+1,hlt,by(show hs.length-(k+1)<hs.length-k;omega),ah.keep ⟨⟨rfl,rfl⟩,⟨rfl,rfl⟩,⟨rfl,rfl⟩,⟨rfl,rfl⟩,⟨rfl,rfl⟩,⟨aj (by omega),rfl⟩,trivial⟩ ⟨⟨rfl,rfl⟩,⟨?_,rfl⟩,trivial⟩⟩;rw[hnext,hh];have:(if dZ p.2 n=true then none else(none:Option Bs))=none:=by split <;> rfl
     rw[this,List.append_nil];rfl
    | some b =>
     conv=>whnf
     refine⟨_,Be p.2 n,?_⟩;cases hgl:dZ p.2 n with
     | true =>
      conv=>whnf
      refine⟨k+1,hlt,by(show hs.length-(k+1)<hs.length-k;omega),ah.keep ⟨⟨rfl,rfl⟩,⟨rfl,rfl⟩,⟨rfl,rfl⟩,⟨rfl,rfl⟩,⟨rfl,rfl⟩,⟨aj (by omega),rfl⟩,trivial⟩ ⟨⟨rfl,rfl⟩,⟨?_,rfl⟩,trivial⟩⟩;rw[hnext,hgl,if_pos rfl,List.append_nil];rfl
     | false =>
      conv=>whnf
      refine⟨by(show((gK zs p.2 (hs.take k)).map ao).length+1<=_);simp;omega,by(show(((gK zs p.2 (hs.take k)).map ao).length+1)*16<=_);simp;omega,?_⟩
      conv=>whnf
      refine⟨k+1,hlt,by(show hs.length-(k+1)<hs.length-k;omega),ah.keep ⟨⟨rfl,rfl⟩,⟨rfl,rfl⟩,⟨rfl,rfl⟩,⟨rfl,rfl⟩,⟨rfl,rfl⟩,⟨aj (by omega),rfl⟩,trivial⟩ ⟨⟨rfl,rfl⟩,⟨?_,rfl⟩,trivial⟩⟩;rw[hnext,hgl,if_neg (by simp),hh,List.map_append];rfl
  . obtain rfl:k=hs.length:=by simp at h1;omega
    rw[List.take_length];have hnl:(gK zs p.2 hs).length<=20:=Nat.le_trans (yW zs p.2 hs) hl;have hnv:=Dh hg (a:=p.2) hv;have hsl:(gO (gK zs p.2 hs)).length<=100000:=by rw[(dR _).length_eq];omega
    refine⟨_,uW _ hnv (by omega) _,?_⟩;generalize gO (gK zs p.2 hs)=l at hsl ⊢
    conv=>whnf
    refine⟨_,CK l hsl _,?_⟩
    conv=>whnf
    exact af rfl rfl
end Go.Proofs.YtcecidfnchcagaaGreatDoor
namespace NP
open NQ Go
theorem yc(zs:List ag)(a:Ans)(l:List Bs)(n:Bs):dG zs a (l++[n])=dG zs a l++(match (if dZ a n=true then none else match fq zs n with | none=>none | some h=>if jD zs h n=true then some h else none)with | some h=>[h] | none=>[]):=by
 unfold dG;rw[List.filterMap_append]
 congr 1
 cases hg:dZ a n with
 | true=>simp[List.filterMap_cons,hg]
 | false =>
  cases hh:fq zs n with
  | none=>simp[List.filterMap_cons,hg,hh]
  | some b=>cases hk:jD zs b n <;> simp[List.filterMap_cons,hg,hh,hk]
theorem rG(zs:List ag)(a:Ans)(l:List Bs):(dG zs a l).length<=l.length:=List.length_filterMap_le _ _
end NP
namespace Go.Proofs.YtcecidfnchcagaaGreatDoor
open NQ Go NP Go.RowKit
set_option maxHeartbeats 2000000 in
theorem MI(zs:List ag)(a:Bs)(hg:bU zs)(ha:ai a=true):NQ.Fn cx 79 [.agg (cr zs), .str a] (.agg ((tU (eI zs a)).map .d)) []:=by
 refine av aH mixed Tryz.func79 (by kernel_rfl) rfl (Nat.le_of_ble_eq_true rfl) ?_;conv=>whnf
 (refine⟨_,_,yE zs a hg ha,?_⟩;conv=>whnf)
 cases hd:b5 zs a with
 | none =>
  have e:eI zs a=LH:=by unfold eI;rw[hd]
  rw[e]
  conv=>whnf
  exact af rfl rfl
 | some p =>
  have e:eI zs a=⟨true,(dD p.2).any (dZ p.2),p.1,dG zs p.2 (dD p.2)⟩:=by unfold eI;rw[hd]
  obtain⟨_,_,_,_,hv,hl⟩:=qJ hg ha hd;rw[e]
  conv=>whnf
  (refine⟨_,_,Bi p.2 (wB hg ha hd),?_⟩;conv=>whnf)
  generalize dD p.2=hs at hv hl ⊢
  refine ⟨Nat, fun k => ⟨[(2, .ptr 2 0), (4, .ptr 4 0), (8, .ptr 8 0), (10, .d (.kmap ((gV p.2.sets).map fy))), (34, .d (.slice 1 (hs.map ao))), (35, .d (.int .i64 ((hs.map ao).length : Int))), (36, .d (.int .i64 k))],
      [(2, .box ((cr zs).map .d)),(4, .box [.d (.bool false), .d (.bool false), .d (.str []), .nil 1]),(8, .box [.d (.bool true), .d (.bool ((hs.take k).any (dZ p.2))), .d (.str p.1), .own 200]),(200, .row 9 1 ((dG zs p.2 (hs.take k)).map ao))]⟩,fun k=>k<=hs.length,fun k=>hs.length-k,
   ⟨0,Nat.zero_le _,(ah.qV 8 3 200 1 [.d (.bool true), .d (.bool false), .d (.str p.1), .nil 1] 9 1 (by kernel_rfl) rfl (by kernel_rfl) (by decide)).trans (ah.keep ⟨⟨rfl,rfl⟩,⟨rfl,rfl⟩,⟨rfl,rfl⟩,⟨rfl,rfl⟩,⟨rfl,rfl⟩,⟨rfl,rfl⟩,⟨rfl,rfl⟩,trivial⟩ ⟨⟨rfl,rfl⟩,⟨rfl,rfl⟩,⟨rfl,rfl⟩,⟨rfl,rfl⟩,trivial⟩)⟩,fun k hk=>?_⟩
  dsimp only at hk ⊢
  conv=>whnf
  refine ae (fun h1=>?_) (fun h1=>?_) <;> (rw[h1];conv=>whnf)
  case refine_2 =>
   obtain rfl:k=hs.length:=by simp at h1;omega
   rw[List.take_length];exact af rfl rfl
  have hlt:k<hs.length:=by simpa using h1
  obtain⟨n,hn⟩:∃n,hs[k]? =some n:=⟨_,List.getElem?_eq_getElem hlt⟩
  have hvn:=hv n (List.mem_of_getElem? hn);have hnl:(dG zs p.2 (hs.take k)).length<=20:=by
   have:=rG zs p.2 (hs.take k);have:=List.length_take_le' k hs;omega
  have hnext:=yc zs p.2 (hs.take k) n;rw[<- aS hn]at hnext;have hany:(hs.take (k+1)).any (dZ p.2)=((hs.take k).any (dZ p.2)||dZ p.2 n):=by rw[aS hn,List.any_append];simp
  refine⟨Int.natCast_nonneg k,ao n,az hn,?_⟩
  conv=>whnf
  refine⟨_,Be p.2 n,?_⟩;cases hgl:dZ p.2 n with
  | true =>
   conv=>whnf
   refine⟨k+1,hlt,by(show hs.length-(k+1)<hs.length-k;omega),ah.keep ⟨⟨rfl,rfl⟩,⟨rfl,rfl⟩,⟨rfl,rfl⟩,⟨rfl,rfl⟩,⟨rfl,rfl⟩,⟨rfl,rfl⟩,⟨aj (by omega),rfl⟩,trivial⟩ ⟨⟨rfl,rfl⟩,⟨rfl,rfl⟩,⟨?_,rfl⟩,⟨?_,rfl⟩,trivial⟩⟩
   . rw[hany,hgl,Bool.or_true];rfl
   . rw[hnext,hgl,if_pos rfl,List.append_nil];rfl
  | false =>
   have hany:(hs.take (k+1)).any (dZ p.2)=(hs.take k).any (dZ p.2):=by rw[hany,hgl,Bool.or_false]
   rw[hgl,if_neg (by simp)]at hnext
   conv=>whnf
   (refine⟨_,_,AY zs n hvn,?_⟩;conv=>whnf)
   cases hh:fq zs n with
   | none =>
    rw[hh]at hnext
    conv=>whnf
    refine⟨k+1,hlt,by(show hs.length-(k+1)<hs.length-k;omega),ah.keep ⟨⟨rfl,rfl⟩,⟨rfl,rfl⟩,⟨rfl,rfl⟩,⟨rfl,rfl⟩,⟨rfl,rfl⟩,⟨rfl,rfl⟩,⟨aj (by omega),rfl⟩,trivial⟩ ⟨⟨rfl,rfl⟩,⟨rfl,rfl⟩,⟨?_,rfl⟩,⟨?_,rfl⟩,trivial⟩⟩
    . rw[hany];rfl
    . rw[hnext,List.append_nil];rfl
   | some b =>
    rw[hh]at hnext;have hsp:=wJ zs hvn;rw[hh]at hsp;obtain⟨x,hx⟩:=Option.isSome_iff_exists.1 hsp.1;have hkn:jD zs b n=((aY x.2.zone ⟨n,1⟩).1.kind==1):=by unfold jD;rw[hx]
    have hzk:=mU zs b;rw[hx]at hzk
    conv=>whnf
    refine⟨_,hzk,?_⟩
    conv=>whnf
    (refine⟨_,_,qw x.2.zone ⟨n,1⟩ (by have:=(fm (hg _ (kN hx).1).1).1;omega),?_⟩;conv=>whnf)
    refine ae (fun h2=>?_) (fun h2=>?_) <;> (rw[h2];conv=>whnf)
    . have h2' :jD zs b n=true:=hkn.trans h2;refine⟨by(show((dG zs p.2 (hs.take k)).map ao).length+1<=_);simp;omega,by(show(((dG zs p.2 (hs.take k)).map ao).length+1)*16<=_);simp;omega,?_⟩
      conv=>whnf
      refine⟨k+1,hlt,by(show hs.length-(k+1)<hs.length-k;omega),ah.keep ⟨⟨rfl,rfl⟩,⟨rfl,rfl⟩,⟨rfl,rfl⟩,⟨rfl,rfl⟩,⟨rfl,rfl⟩,⟨rfl,rfl⟩,⟨aj (by omega),rfl⟩,trivial⟩ ⟨⟨rfl,rfl⟩,⟨rfl,rfl⟩,⟨?_,rfl⟩,⟨?_,rfl⟩,trivial⟩⟩
      . rw[hany];rfl
      . rw[hnext];dsimp only;rw[if_pos h2',List.map_append];rfl
    . have h2' :jD zs b n=false:=hkn.trans h2;refine⟨k+1,hlt,by(show hs.length-(k+1)<hs.length-k;omega),ah.keep ⟨⟨rfl,rfl⟩,⟨rfl,rfl⟩,⟨rfl,rfl⟩,⟨rfl,rfl⟩,⟨rfl,rfl⟩,⟨rfl,rfl⟩,⟨aj (by omega),rfl⟩,trivial⟩ ⟨⟨rfl,rfl⟩,⟨rfl,rfl⟩,⟨?_,rfl⟩,⟨?_,rfl⟩,trivial⟩⟩
      . rw[hany];rfl
      . rw[hnext];dsimp only;rw[if_neg (by rw[h2'];simp),List.append_nil];rfl
end Go.Proofs.YtcecidfnchcagaaGreatDoor
namespace NP
open NQ Go
def lv(zs:List ag)(l:List Bs):List (Bs×D):=l.map fun a=>(a, .agg (tU (eI zs a)))
theorem uP(zs:List ag)(a:Bs):∀l:List Bs,bJ a (lv zs l)=if l.contains a=true then some (.agg (tU (eI zs a)))else none
 | []=>rfl
 | b::t=>by
  show(if a=b then _ else bJ a (lv zs t))=_
  rw[uP zs a t,List.contains_cons];by_cases h:a=b
  . subst h;simp
  . rw[if_neg h,show(a==b)=false by simpa using h,Bool.false_or]
theorem xd(zs:List ag){a:Bs}:∀{r:List Bs},r.contains a=false->bM a (.agg (tU (eI zs a))) (lv zs r)=lv zs (r++[a])
 | [],_=>rfl
 | b::t,h=>by
  rw[List.contains_cons,Bool.or_eq_false_iff]at h;have hne:¬a=b:=by simpa using h.1
  show(if a=b then _ else(b,_)::bM a _ (lv zs t))=_
  rw[if_neg hne,xd zs h.2];rfl
def sF(l:List Bs)(p:Bs->Bool):Int:=if l.any p=true then(l.findIdx p:Int)else -1
theorem Kh{l:List Bs}{p:Bs->Bool}{k:Nat}{x:Bs}(hno:(l.take k).any p=false)(hx:l[k]? =some x)(hp:p x=true):sF l p=k:=by
 obtain⟨hlt,e⟩:=List.getElem?_eq_some_iff.1 hx;unfold sF;rw[if_pos (List.any_eq_true.2 ⟨x,List.mem_of_getElem? hx,hp⟩)]
 congr 1
 rw[List.findIdx_eq hlt];refine⟨by rw[e];exact hp,fun j hj=>?_⟩;have h1:l[j]∈l.take k:=by
  rw[List.mem_take_iff_getElem];exact⟨j,by omega,rfl⟩
 have:=List.any_eq_false.1 hno _ h1;simpa using this
theorem Ht{l:List Bs}{p:Bs->Bool}(h:l.any p=false):sF l p= -1:=by unfold sF;rw[if_neg (by rw[h];simp)]
theorem Ki(l:List Bs)(p:Bs->Bool):decide (sF l p>=0)=l.any p:=by
 unfold sF;cases h:l.any p with
 | true=>rw[if_pos rfl];exact decide_eq_true (Int.natCast_nonneg _)
 | false=>rw[if_neg (by simp)];rfl
theorem IA(zs:List ag){a:Bs}(h:a∈ar zs):fj (.str a) ((lv zs (ar zs)).map fy)=some (some (.agg (tU (eI zs a)))):=by
 rw[yf,uP,if_pos (List.contains_iff_mem.2 h)]
end NP
namespace Go.Proofs.YtcecidfnchcagaaGreatDoor
open NQ Go NP Go.RowKit
noncomputable def cxZ:Cx:={cx with chg:=fun g=>match Nat.beq g 80 with | true=>6 | false=>(match Nat.beq g 81 with | true=>6 | false=>(match Nat.beq g 148 with | true=>6 | false=>  (match Nat.beq g 215 with | true=>6 | false=>(match Nat.beq g 82 with | true=>6 | false=>cx.chg g))))}
theorem tyZ:aO cxZ:=aH
theorem pX:cxZ.P.follows .mixedOrders=true:=mixed
def isR:AV:= .fn 80 [] [.ptr 100008 0]
def hZ(r:List Bs):List (Nat×Blk):=[(100008, .box [.omap 33]),(100009, .box [isR]),(33, .smap (jo r))]
def hG(zs:List ag)(r:List Bs):List (Nat×Blk):=[(100004, .box ((cr zs).map .d)),(100005, .box [.d (.kmap ((lv zs (ar zs)).map fy))]),(100008, .box [.omap 33]),(100009, .box [isR]),(33, .smap (jo r))]
theorem rE(r:List Bs)(a:Bs):FnH cxZ 80 [.d (.str a), .ptr 100008 0] (hZ r) (.d (.bool (r.contains a))) (hZ r):=by
 refine lg (fun _=>[]) tyZ pX Tryz.func80 (by kernel_rfl) rfl (Nat.le_of_ble_eq_true rfl) (Nat.le_of_ble_eq_true rfl) ?_
 conv=>whnf
 rw[lA];cases h:r.contains a with
 | true =>
  conv=>whnf
  exact⟨[(3, .d (.bool true))],ah.keep ⟨⟨(by kernel_rfl),(by kernel_rfl)⟩,trivial⟩ ⟨⟨(by kernel_rfl),(by kernel_rfl)⟩,⟨(by kernel_rfl),(by kernel_rfl)⟩,⟨(by kernel_rfl),(by kernel_rfl)⟩,trivial⟩,rfl⟩
 | false =>
  conv=>whnf
  exact⟨[(3, .d (.bool false))],ah.keep ⟨⟨(by kernel_rfl),(by kernel_rfl)⟩,trivial⟩ ⟨⟨(by kernel_rfl),(by kernel_rfl)⟩,⟨(by kernel_rfl),(by kernel_rfl)⟩,⟨(by kernel_rfl),(by kernel_rfl)⟩,trivial⟩,rfl⟩
theorem Fy(l r:List Bs)(hl:l.length<=100000):FnH cxZ 215 [.d (.slice 1 (l.map ao)),isR] (hZ r) (.d (.int .i64 (sF l r.contains))) (hZ r):=by
 refine lg (fun | 4=>[88888] | _=>[]) tyZ pX Tryz.func215 (by kernel_rfl) rfl (Nat.le_of_ble_eq_true rfl) (Nat.le_of_ble_eq_true rfl) ?_
 conv=>whnf
 refine⟨Nat,fun k=>⟨[(0, .d (.slice 1 (l.map ao))),(1,isR),(7, .d (.int .i64 ((l.map ao).length:Int))),(8, .d (.int .i64 k))],hZ r⟩,fun k=>k<=l.length/\(l.take k).any r.contains=false,fun k=>l.length-k,
  ⟨0,⟨Nat.zero_le _,rfl⟩,ah.keep ⟨⟨rfl,rfl⟩,⟨rfl,rfl⟩,⟨rfl,rfl⟩,⟨rfl,rfl⟩,trivial⟩ ⟨⟨rfl,rfl⟩,⟨rfl,rfl⟩,⟨rfl,rfl⟩,trivial⟩⟩,fun k ⟨hk,hno⟩=>?_⟩
 dsimp only at hk hno ⊢
 conv=>whnf
 refine ae (fun h1=>?_) (fun h1=>?_) <;> (rw[h1];conv=>whnf)
 . have hlt:k<l.length:=by simpa using h1
   obtain⟨x,hx⟩:∃x,l[k]? =some x:=⟨_,List.getElem?_eq_getElem hlt⟩
   refine⟨Int.natCast_nonneg k,ao x,az hx,?_⟩
   conv=>whnf
   refine⟨[],_,_,rE r x,⟨⟨by kernel_rfl,by kernel_rfl⟩,by kernel_rfl,by kernel_rfl,by kernel_rfl⟩,?_⟩
   conv=>whnf
   cases hr:r.contains x with
   | true =>
    conv=>whnf
    rw[Kh hno hx hr];exact⟨[(4, .d (.int .i64 k))],ah.keep ⟨⟨rfl,rfl⟩,trivial⟩ ⟨⟨rfl,rfl⟩,⟨rfl,rfl⟩,⟨rfl,rfl⟩,trivial⟩,rfl⟩
   | false =>
    conv=>whnf
    refine⟨k+1,⟨hlt,?_⟩,by(show l.length-(k+1)<l.length-k;omega),ah.keep ⟨⟨rfl,rfl⟩,⟨rfl,rfl⟩,⟨rfl,rfl⟩,⟨aj (by omega),rfl⟩,trivial⟩ ⟨⟨rfl,rfl⟩,⟨rfl,rfl⟩,⟨rfl,rfl⟩,trivial⟩⟩;rw[aS hx,List.any_append,hno];simp only[List.any_cons,List.any_nil,hr];rfl
 . obtain rfl:k=l.length:=by simp at h1;omega
   rw[List.take_length]at hno;rw[Ht hno];exact⟨[(4, .d (.int .i64 (-1)))],ah.keep ⟨⟨rfl,rfl⟩,trivial⟩ ⟨⟨rfl,rfl⟩,⟨rfl,rfl⟩,⟨rfl,rfl⟩,trivial⟩,rfl⟩
theorem zD(l r:List Bs)(hl:l.length<=100000):FnH cxZ 148 [.d (.slice 1 (l.map ao)),isR] (hZ r) (.d (.bool (l.any r.contains))) (hZ r):=by
 refine lg (fun | 1=>[88888] | _=>[]) tyZ pX Tryz.func148 (by kernel_rfl) rfl (Nat.le_of_ble_eq_true rfl) (Nat.le_of_ble_eq_true rfl) ?_
 conv=>whnf
 refine⟨[],_,_,Fy l r hl,⟨⟨by kernel_rfl,by kernel_rfl⟩,by kernel_rfl,by kernel_rfl,by kernel_rfl⟩,?_⟩
 conv=>whnf
 rw[<- Ki l r.contains];exact⟨[(4, .d (.bool (decide (sF l r.contains>=0))))],ah.keep ⟨⟨rfl,rfl⟩,trivial⟩ ⟨⟨rfl,rfl⟩,⟨rfl,rfl⟩,⟨rfl,rfl⟩,trivial⟩,rfl⟩
theorem KG(rd:tz)(r:List Bs)(hl:rd.homes.length<=100000):FnH cxZ 82 [.agg ((tU rd).map .d),isR] (hZ r) (.d (.bool (kD rd r.contains))) (hZ r):=by
 obtain⟨th,gl,ab,hm⟩:=rd;refine lg (fun | 1=>[88888] | _=>[]) tyZ pX Tryz.func82 (by kernel_rfl) rfl (Nat.le_of_ble_eq_true rfl) (Nat.le_of_ble_eq_true rfl) ?_
 conv=>whnf
 cases th with
 | false =>
  conv=>whnf
  exact⟨[(4, .d (.bool false))],ah.keep ⟨⟨rfl,rfl⟩,trivial⟩ ⟨⟨rfl,rfl⟩,⟨rfl,rfl⟩,⟨rfl,rfl⟩,trivial⟩,rfl⟩
 | true =>
  conv=>whnf
  refine⟨[2],_,_,rE r ab,⟨⟨by kernel_rfl,by kernel_rfl⟩,by kernel_rfl,by kernel_rfl,by kernel_rfl⟩,?_⟩
  conv=>whnf
  have e:kD ⟨true,gl,ab,hm⟩ r.contains=(r.contains ab&&(gl||hm.any r.contains)):=by unfold kD;rw[Bool.true_and]
  rw[e];cases ha:r.contains ab with
  | false =>
   conv=>whnf
   exact⟨[(4, .d (.bool false))],ah.keep ⟨⟨rfl,rfl⟩,trivial⟩ ⟨⟨rfl,rfl⟩,⟨rfl,rfl⟩,⟨rfl,rfl⟩,trivial⟩,rfl⟩
  | true =>
   conv=>whnf
   cases gl with
   | true =>
    conv=>whnf
    exact⟨[(4, .d (.bool true))],ah.keep ⟨⟨rfl,rfl⟩,trivial⟩ ⟨⟨rfl,rfl⟩,⟨rfl,rfl⟩,⟨rfl,rfl⟩,trivial⟩,rfl⟩
   | false =>
    conv=>whnf
    refine⟨[2],_,_,zD hm r hl,⟨⟨by kernel_rfl,by kernel_rfl⟩,by kernel_rfl,by kernel_rfl,by kernel_rfl⟩,?_⟩
    conv=>whnf
    exact⟨[(4, .d (.bool (hm.any r.contains)))],ah.keep ⟨⟨rfl,rfl⟩,trivial⟩ ⟨⟨rfl,rfl⟩,⟨rfl,rfl⟩,⟨rfl,rfl⟩,trivial⟩,rfl⟩
set_option maxHeartbeats 1000000 in
theorem Ke(zs:List ag)(r:List Bs)(hg:bU zs)(hz:zs.length<=1000):FnH cxZ 81 [.ptr 100004 0, .ptr 100008 0, .ptr 100005 0, .ptr 100009 0] (hG zs r) (.d (.bool (decide (r.length<(dx zs r).length)))) (hG zs (dx zs r)):=by
 have hal:=gu zs;refine lg (fun | 5=>[88888] | _=>[]) tyZ pX Tryz.func81 (by kernel_rfl) rfl (Nat.le_of_ble_eq_true rfl) (Nat.le_of_ble_eq_true rfl) ?_
 conv=>whnf
 refine⟨Nat×List Bs,fun x=>⟨[(0, .ptr 100004 0),(1, .ptr 100008 0),(2, .ptr 100005 0),(3, .ptr 100009 0),(5, .d (.bool (decide (r.length<x.2.length)))),(9, .d (.slice 1 ((ar zs).map ao))),(10, .d (.int .i64 (((ar zs).map ao).length:Int))),(11, .d (.int .i64 x.1))],hG zs x.2⟩,
  fun x=>x.1<=(ar zs).length/\jn zs x.2 ((ar zs).drop x.1)=dx zs r/\r.length<=x.2.length,fun x=>(ar zs).length-x.1,
  ⟨(0,r),⟨Nat.zero_le _,rfl,Nat.le_refl _⟩,ah.keep ⟨⟨rfl,rfl⟩,⟨rfl,rfl⟩,⟨rfl,rfl⟩,⟨rfl,rfl⟩,⟨by(show AV.d (D.bool false)=AV.d (D.bool (decide (r.length<r.length))));rw[decide_eq_false (Nat.lt_irrefl _)],rfl⟩,⟨rfl,rfl⟩,⟨rfl,rfl⟩,⟨rfl,rfl⟩,trivial⟩ ⟨⟨rfl,rfl⟩,⟨rfl,rfl⟩,⟨rfl,rfl⟩,⟨rfl,rfl⟩,⟨rfl,rfl⟩,trivial⟩⟩,fun⟨k,r'⟩ ⟨hk,hinv,hle⟩=>?_⟩
 dsimp only at hk hinv hle ⊢
 conv=>whnf
 refine ae (fun h1=>?_) (fun h1=>?_) <;> (rw[h1];conv=>whnf)
 case refine_2 =>
  obtain rfl:k=(ar zs).length:=by simp at h1;omega
  rw[List.drop_length]at hinv;have hinv:r' =dx zs r:=hinv;subst hinv;exact⟨[(4, .d (.bool (decide (r.length<(dx zs r).length))))],ah.keep ⟨⟨rfl,rfl⟩,trivial⟩ ⟨⟨rfl,rfl⟩,⟨rfl,rfl⟩,⟨rfl,rfl⟩,⟨rfl,rfl⟩,⟨rfl,rfl⟩,trivial⟩,rfl⟩
 have hlt:k<(ar zs).length:=by simpa using h1
 obtain⟨a,ha⟩:∃a,(ar zs)[k]? =some a:=⟨_,List.getElem?_eq_getElem hlt⟩
 have ham:=List.mem_of_getElem? ha;rw[drop_cons ha]at hinv;have hinv:jn zs (b9 zs r' a) ((ar zs).drop (k+1))=dx zs r:=hinv;have same:eT zs r' a=false->b9 zs r' a=r' :=fun h=>by unfold b9;rw[if_neg (by rw[h];simp)]
 have more:eT zs r' a=true->b9 zs r' a=r' ++[a]:=fun h=>by unfold b9;rw[if_pos h]
 refine⟨Int.natCast_nonneg k,ao a,az ha,?_⟩
 conv=>whnf
 rw[lA];have roadlen:(eI zs a).homes.length<=100000:=by
  unfold eI;cases hd:b5 zs a with
  | none=>exact Nat.zero_le _
  | some p =>
   have hav:ai a=true:=dW hg ((cj zs a).2 (ck.1 ham));obtain⟨_,_,_,_,_,hl⟩:=qJ hg hav hd;have:=rG zs p.2 (dD p.2);dsimp only;omega
 cases hc:r'.contains a with
 | true =>
  have hgo:eT zs r' a=false:=by unfold eT;rw[hc];rfl
  rw[same hgo]at hinv
  conv=>whnf
  exact⟨(k+1,r'),⟨hlt,hinv,hle⟩,by(show(ar zs).length-(k+1)<(ar zs).length-k;omega),ah.keep ⟨⟨rfl,rfl⟩,⟨rfl,rfl⟩,⟨rfl,rfl⟩,⟨rfl,rfl⟩,⟨rfl,rfl⟩,⟨rfl,rfl⟩,⟨rfl,rfl⟩,⟨aj (by omega),rfl⟩,trivial⟩ ⟨⟨rfl,rfl⟩,⟨rfl,rfl⟩,⟨rfl,rfl⟩,⟨rfl,rfl⟩,⟨rfl,rfl⟩,trivial⟩⟩
 | false =>
  have hnew : eT zs r' a = true -> ah cxZ ⟨[(0, .ptr 100004 0), (1, .ptr 100008 0), (2, .ptr 100005 0), (3, .ptr 100009 0), (5, .d (.bool true)), (9, .d (.slice 1 ((ar zs).map ao))), (10, .d (.int .i64 (((ar zs).map ao).length : Int))), (11, .d (.int .i64 ((k + 1 : Nat) : Int)))], [(100004, .box ((cr zs).map .d)), (100005, .box [.d (.kmap ((lv zs (ar zs)).map fy))]), (100008, .box [.omap 33]), (100009, .box [isR]), (33, .smap (bM a (.bool true) (jo r')))]⟩
      ⟨[(0, .ptr 100004 0),(1, .ptr 100008 0),(2, .ptr 100005 0),(3, .ptr 100009 0),(5, .d (.bool (decide (r.length<(r' ++[a]).length)))),(9, .d (.slice 1 ((ar zs).map ao))),(10, .d (.int .i64 (((ar zs).map ao).length:Int))),(11, .d (.int .i64 ((k+1:Nat):Int)))],hG zs (r' ++[a])⟩:=fun _=>by
   refine ah.keep ⟨⟨rfl,rfl⟩,⟨rfl,rfl⟩,⟨rfl,rfl⟩,⟨rfl,rfl⟩,⟨?_,rfl⟩,⟨rfl,rfl⟩,⟨rfl,rfl⟩,⟨rfl,rfl⟩,trivial⟩ ⟨⟨rfl,rfl⟩,⟨rfl,rfl⟩,⟨rfl,rfl⟩,⟨rfl,rfl⟩,⟨congrArg (fun m=>some (Blk.smap m)) (sZ hc),rfl⟩,trivial⟩;rw[decide_eq_true (by simp;omega)];rfl
  conv=>whnf
  cases h46:(a==[46])with
  | true =>
   have hgo:eT zs r' a=true:=by unfold eT;rw[hc,h46];rfl
   rw[more hgo]at hinv
   conv=>whnf
   refine⟨(k+1,r' ++[a]),⟨hlt,hinv,by simp;omega⟩,by(show(ar zs).length-(k+1)<(ar zs).length-k;omega),ah.trans ?_ (hnew hgo)⟩;exact ah.keep ⟨⟨rfl,rfl⟩,⟨rfl,rfl⟩,⟨rfl,rfl⟩,⟨rfl,rfl⟩,⟨rfl,rfl⟩,⟨rfl,rfl⟩,⟨rfl,rfl⟩,⟨aj (by omega),rfl⟩,trivial⟩ ⟨⟨rfl,rfl⟩,⟨rfl,rfl⟩,⟨rfl,rfl⟩,⟨rfl,rfl⟩,⟨rfl,rfl⟩,trivial⟩
  | false =>
   conv=>whnf
   refine⟨_,IA zs ham,?_⟩
   conv=>whnf
   refine⟨[100004,100005],_,_,KG (eI zs a) r' roadlen,⟨⟨by kernel_rfl,by kernel_rfl⟩,by kernel_rfl,by kernel_rfl,by kernel_rfl⟩,?_⟩
   conv=>whnf
   cases ho:kD (eI zs a) r'.contains with
   | true =>
    have hgo:eT zs r' a=true:=by unfold eT;rw[hc,ho];simp
    rw[more hgo]at hinv
    conv=>whnf
    refine⟨(k+1,r' ++[a]),⟨hlt,hinv,by simp;omega⟩,by(show(ar zs).length-(k+1)<(ar zs).length-k;omega),ah.trans ?_ (hnew hgo)⟩;exact ah.keep ⟨⟨rfl,rfl⟩,⟨rfl,rfl⟩,⟨rfl,rfl⟩,⟨rfl,rfl⟩,⟨rfl,rfl⟩,⟨rfl,rfl⟩,⟨rfl,rfl⟩,⟨aj (by omega),rfl⟩,trivial⟩ ⟨⟨rfl,rfl⟩,⟨rfl,rfl⟩,⟨rfl,rfl⟩,⟨rfl,rfl⟩,⟨rfl,rfl⟩,trivial⟩
   | false =>
    have hgo:eT zs r' a=false:=by unfold eT;rw[hc,ho,h46];rfl
    rw[same hgo]at hinv
    conv=>whnf
    exact⟨(k+1,r'),⟨hlt,hinv,hle⟩,by(show(ar zs).length-(k+1)<(ar zs).length-k;omega),ah.keep ⟨⟨rfl,rfl⟩,⟨rfl,rfl⟩,⟨rfl,rfl⟩,⟨rfl,rfl⟩,⟨rfl,rfl⟩,⟨rfl,rfl⟩,⟨rfl,rfl⟩,⟨aj (by omega),rfl⟩,trivial⟩ ⟨⟨rfl,rfl⟩,⟨rfl,rfl⟩,⟨rfl,rfl⟩,⟨rfl,rfl⟩,⟨rfl,rfl⟩,trivial⟩⟩
end Go.Proofs.YtcecidfnchcagaaGreatDoor
namespace NP
open NQ Go
def od:Nat->List Bs->List (Bs×D)
 | _,[]=>[]
 | i,a::t=>(a, .int .i64 (i:Nat))::od (i+1) t
theorem uL(a:Bs):∀(l:List Bs) (i:Nat),bJ a (od i l)=if l.contains a=true then some (.int .i64 ((i+l.idxOf a:Nat):Int))else none
 | [],i=>rfl
 | b::t,i=>by
  show(if a=b then _ else bJ a (od (i+1) t))=_
  rw[uL a t (i+1),List.contains_cons,List.idxOf_cons];by_cases h:a=b
  . subst h;simp
  . have h1:(a==b)=false:=by simpa using h
    have h2:(b==a)=false:=by simpa using fun e:b=a=>h e.symm
    rw[if_neg h,h1,h2,Bool.false_or];by_cases hc:t.contains a=true
    . rw[if_pos hc,if_pos hc];have e:i+1+t.idxOf a=i+(t.idxOf a+1):=by omega
      rw[e];rfl
    . rw[if_neg hc,if_neg hc]
theorem w6{a:Bs}:∀{l:List Bs} {i:Nat},l.contains a=false->bM a (.int .i64 ((i+l.length:Nat):Int)) (od i l)=od i (l++[a])
 | [],i,_=>rfl
 | b::t,i,h=>by
  rw[List.contains_cons,Bool.or_eq_false_iff]at h;have hne:¬a=b:=by simpa using h.1
  show(if a=b then _ else(b,_)::bM a _ (od (i+1) t))=_
  have e:i+(b::t).length=i+1+t.length:=by simp;omega
  rw[if_neg hne,e,w6 (l:=t) h.2];rfl
theorem CF{zs:List ag}{f:Nat}{met:List Bs}{s:Bs}(h:met.contains s=true):cU zs (f+1) met s=(met.drop (met.idxOf s),true):=by rw[cU,if_pos h]
theorem Ao{zs:List ag}{f:Nat}{met:List Bs}{s:Bs}(h:met.contains s=false)(hl:gJ zs s=none):cU zs (f+1) met s=([],false):=by rw[cU,if_neg (by rw[h];simp),hl]
theorem Ap{zs:List ag}{f:Nat}{met:List Bs}{s n:Bs}(h:met.contains s=false)(hl:gJ zs s=some n):cU zs (f+1) met s=cU zs f (met++[s]) n:=by rw[cU,if_neg (by rw[h];simp),hl]
theorem uY{zs:List ag}(hf:∀p∈zs,fY p.zone=true):(dC zs).length<=zs.length*2000:=by
 unfold dC;induction zs with
 | nil=>simp
 | cons p t ih =>
  have h1:=fm (hf p (List.mem_cons_self ..));have h2:=ih fun q hq=>hf q (List.mem_cons_of_mem _ hq)
  have h3:∀l:List Signed,(∀s∈l,s.set.data.length<=20)->(l.flatMap fun s=>s.set.data.map (·.text)).length<=20*l.length:=fun l=>by
   induction l with
   | nil=>intro _;simp
   | cons s r ih2 =>
    intro hs;have a1:=hs s (List.mem_cons_self ..);have a2:=ih2 fun x hx=>hs x (List.mem_cons_of_mem _ hx)
    rw[List.flatMap_cons,List.length_append,List.length_map,List.length_cons];omega
  have h4:=h3 p.zone.sets fun s hs=>(h1.2 s hs).1
  rw[List.flatMap_cons,List.length_append,List.length_cons];omega
end NP
namespace Go.Proofs.YtcecidfnchcagaaGreatDoor
open NQ Go NP Go.RowKit
theorem CH(l:List Bs)(hl:l.length<=1000000):NQ.Fn cx 92 [.slice 1 (l.map ao)] (.d (.slice 1 (l.map ao))) []:=by
 refine av aH mixed Tryz.func92 (by kernel_rfl) rfl (Nat.le_of_ble_eq_true rfl) ?_;conv=>whnf
 refine⟨fun h=>?_,?_⟩
 . refine af rfl ?_;rw[List.isEmpty_iff.1 h];rfl
 . conv=>whnf
   refine⟨by(show 0+(l.map ao).length<=_;simp;omega),by(show(0+(l.map ao).length)*16<=_;simp;omega),?_⟩
   conv=>whnf
   exact af rfl rfl
theorem tM(w:aQ)(hF:jr w)(hv:aX w=true):NQ.Fn cx 78 [.agg (bp w)] (.agg ((cr w.zones).map .d)) [] :=
 BC w (fun p hp=>(aU (ot hv p hp).1).apex) (by have:=hF.zones;omega)
theorem rC(w:aQ)(a:Bs)(hF:jr w)(h:cH w a=0):NQ.Fn cx 88 [.agg (bp w), .str a] (.tuple [.agg ((cr w.zones).map .d), .d (.int .i64 0)]) []:=by
 obtain⟨hv,ha,hc⟩:=lh h;have fV:=o9 w hF;rw[hv]at fV;have fN:=im a;rw[ha]at fN;obtain⟨x,hx⟩:=Option.isSome_iff_exists.1 hc;have hk:=mU w.zones a;rw[hx]at hk;refine av aH mixed Tryz.func88 (by kernel_rfl) rfl (Nat.le_of_ble_eq_true rfl) ?_;conv=>whnf
 (refine⟨_,_,fV,?_⟩;conv=>whnf)
 (refine⟨_,_,fN,?_⟩;conv=>whnf)
 (refine⟨_,_,tM w hF hv,?_⟩;conv=>whnf)
 refine⟨_,hk,?_⟩
 conv=>whnf
 exact af rfl rfl
theorem pS(w:aQ)(a:Bs)(hF:jr w)(h:cH w a ≠ 0):NQ.Fn cx 88 [.agg (bp w), .str a] (.tuple [.agg [.d .nmap, .nil 1], .d (.int .i64 (cH w a))]) []:=by
 have fV:=o9 w hF;have fN:=im a;unfold cH at h ⊢;refine av aH mixed Tryz.func88 (by kernel_rfl) rfl (Nat.le_of_ble_eq_true rfl) ?_;conv=>whnf
 (refine⟨_,_,fV,?_⟩;conv=>whnf)
 cases hv:aX w with
 | false =>
  rw[if_pos (by rfl)]
  conv=>whnf
  exact rf (bs:=[]) (by kernel_rfl) (by kernel_rfl) trivial
 | true =>
  conv=>whnf
  (refine⟨_,_,fN,?_⟩;conv=>whnf)
  cases ha:ai a with
  | false =>
   rw[if_pos (by rfl)]
   conv=>whnf
   exact rf (bs:=[]) (by kernel_rfl) (by kernel_rfl) trivial
  | true =>
   rw[hv,ha,if_neg (by simp)]at h;rw[if_neg (by simp)];have hc:aN w.zones a=none:=by
    cases hc:aN w.zones a with
    | none=>rfl
    | some x=>rw[hc]at h;exact absurd rfl h
   have hk:=mU w.zones a;rw[hc]at hk;rw[hc]
   conv=>whnf
   (refine⟨_,_,tM w hF hv,?_⟩;conv=>whnf)
   refine⟨_,hk,?_⟩
   conv=>whnf
   exact rf (bs:=[]) (by kernel_rfl) (by kernel_rfl) trivial
theorem oN(w:aQ)(a:Bs)(hF:jr w):NQ.Fn cx 38 [.agg (bp w), .str a] (.tuple [.d (.slice 1 ((jG w a).1.map ao)), .d (.int .i64 (jG w a).2)]) []:=by
 unfold jG;by_cases h:cH w a=0
 . obtain⟨hv,ha,hc⟩:=lh h;rw[if_pos h];refine av aH mixed Tryz.func38 (by kernel_rfl) rfl (Nat.le_of_ble_eq_true rfl) ?_;conv=>whnf
   (refine⟨_,_,rC w a hF h,?_⟩;conv=>whnf)
   (refine⟨_,_,BB w.zones a (qI hF hv) ha,?_⟩;conv=>whnf)
   exact af rfl rfl
 . rw[if_neg h];have fB:=pS w a hF h;generalize cH w a=e at *
   have he:(e != 0)=true:=by simpa using h
   refine av aH mixed Tryz.func38 (by kernel_rfl) rfl (Nat.le_of_ble_eq_true rfl) ?_;conv=>whnf
   (refine⟨_,_,fB,?_⟩;conv=>whnf)
   rw[he]
   conv=>whnf
   exact af rfl rfl
set_option maxHeartbeats 1000000 in
theorem yv(w:aQ)(s0:Bs)(hF:jr w)(hz:w.zones.length<=20):NQ.Fn cx 40 [.agg (bp w), .str s0] (.tuple [.d (.slice 1 ((pJ w s0).1.map ao)), .d (.bool (pJ w s0).2.1), .d (.int .i64 (pJ w s0).2.2)]) []:=by
 have fV:=o9 w hF;have fN:=im s0;unfold pJ;refine cw (fun | 8=>[9] | _=>[]) aH mixed Tryz.func40 (by kernel_rfl) rfl (Nat.le_of_ble_eq_true rfl) ?_
 conv=>whnf
 (refine⟨_,_,fV,?_⟩;conv=>whnf)
 cases hv:aX w with
 | false =>
  rw[if_pos (by rfl)]
  conv=>whnf
  exact af rfl rfl
 | true =>
 conv=>whnf
 (refine⟨_,_,fN,?_⟩;conv=>whnf)
 cases hs0:ai s0 with
 | false =>
  rw[if_pos (by rfl)]
  conv=>whnf
  exact af rfl rfl
 | true =>
 rw[if_neg (by simp)];have hg:=qI hF hv;have htl:=uY (zs:=w.zones) hF.few
 conv=>whnf
 (refine⟨_,_,tM w hF hv,?_⟩;conv=>whnf)
 refine⟨Nat×List Bs×Bs,fun x=>⟨[(1, .d (.str x.2.2)),(7, .ptr 7 0),(8, .omap 24),(9, .own 9)],[(7, .box ((cr w.zones).map .d)),(24, .smap (od 0 x.2.1)),(9, .row 9 1 (x.2.1.map ao))]⟩,
  fun x=>x.1+x.2.1.length=(dC w.zones).length+2/\x.2.1.Nodup/\ai x.2.2=true/\(∀n∈x.2.1,n=s0\/n∈dC w.zones)/\(x.2.2=s0\/x.2.2∈dC w.zones)/\cU w.zones x.1 x.2.1 x.2.2=mz w.zones s0,fun x=>x.1,
  ⟨((dC w.zones).length+2,[],s0),⟨rfl,List.nodup_nil,hs0,(fun n h=>by cases h), .inl rfl,rfl⟩,(ah.j6 9 9 1 9 1 rfl rfl (by decide)).trans (ah.keep ⟨⟨rfl,rfl⟩,⟨rfl,rfl⟩,⟨rfl,rfl⟩,⟨rfl,rfl⟩,trivial⟩ ⟨⟨rfl,rfl⟩,⟨rfl,rfl⟩,⟨rfl,rfl⟩,trivial⟩)⟩,fun⟨f,met,s⟩ ⟨hf,hnd,hsv,hin,hs,hinv⟩=>?_⟩
 dsimp only at hf hnd hsv hin hs hinv ⊢;have hml:met.length<=(dC w.zones).length+1:=by
  have:=iU hnd (m:=s0::dC w.zones) fun n hn=>by
   rcases hin n hn with e | e
   . exact List.mem_cons.2 (.inl e)
   . exact List.mem_cons_of_mem _ e
  simpa using this
 obtain⟨f,rfl⟩:∃g,f=g+1:=⟨f-1,by omega⟩
 conv=>whnf
 rw[uL];cases hm:met.contains s with
 | true =>
  rw[CF hm]at hinv;have hix:met.idxOf s<=met.length:=List.idxOf_le_length
  conv=>whnf
  refine⟨by(show(0:Int)<=((0+met.idxOf s:Nat):Int));exact Int.natCast_nonneg _,by(show((0+met.idxOf s:Nat):Int)<=((met.map ao).length:Int));rw[List.length_map];omega,Int.le_refl _,?_⟩
  conv=>whnf
  have e:(met.map ao).drop ((0+met.idxOf s:Nat):Int).toNat=(met.drop (met.idxOf s)).map ao:=by
   rw[Nat.zero_add,Int.toNat_natCast,List.map_drop]
  rw[e];have e2:((met.drop (met.idxOf s)).map ao).take (((met.map ao).length:Int).toNat-((0+met.idxOf s:Nat):Int).toNat)=(met.drop (met.idxOf s)).map ao :=
   List.take_of_length_le (by rw[List.length_map,List.length_drop,List.length_map];omega)
  rw[e2]
  (refine⟨_,_,CH (met.drop (met.idxOf s)) (by rw[List.length_drop];omega),?_⟩;conv=>whnf)
  refine af rfl ?_;rw[<- hinv];rfl
 | false =>
  conv=>whnf
  refine⟨by(show(met.map ao).length+1<=_);simp;omega,by(show((met.map ao).length+1)*16<=_);simp;omega,?_⟩
  conv=>whnf
  (refine⟨_,_,Fk w.zones ⟨s,1⟩ hg (Iq hsv),?_⟩;conv=>whnf)
  cases hl:gJ w.zones s with
  | none =>
   rw[Ao hm hl]at hinv;cases hok:(bD w.zones ⟨s,1⟩).2 with
   | false =>
    conv=>whnf
    refine af rfl ?_;rw[<- hinv];rfl
   | true =>
    have hk:((bD w.zones ⟨s,1⟩).1.kind != 3)=true:=by
     unfold gJ at hl;rw[hok,Bool.true_and]at hl;split at hl
     . cases hl
     . rename_i h;simpa [bne] using h
    conv=>whnf
    rw[hk]
    conv=>whnf
    refine af rfl ?_;rw[<- hinv];rfl
  | some n =>
   rw[Ap hm hl]at hinv;obtain⟨hnv,hnt,a,t,R,d,h1,h2,h3,h4,h5⟩:=tJ hg hsv hl;rw[h1];have hk:(a.kind != 3)=false:=by rw[h2];rfl
   conv=>whnf
   rw[hk]
   conv=>whnf
   rw[h3];refine⟨by decide,ay t,rfl,?_⟩
   conv=>whnf
   refine⟨by decide,bG d,(by rw[h4];rfl:(t.set.data.map bG)[(0:Int).toNat]? =some (bG d)),?_⟩
   conv=>whnf
   have hsn:s ∉ met:=fun e=>by rw[List.contains_iff_mem.2 e]at hm;cases hm
   refine⟨(f,met++[s],n),⟨by simp;omega,?_,hnv,fun x hx=>?_, .inr hnt,hinv⟩,by(show f<f+1;omega),ah.keep ⟨⟨by rw[h5];rfl,rfl⟩,⟨rfl,rfl⟩,⟨rfl,rfl⟩,⟨rfl,rfl⟩,trivial⟩ ⟨⟨rfl,rfl⟩,⟨?_,rfl⟩,⟨?_,rfl⟩,trivial⟩⟩
   . rw[List.nodup_append];exact⟨hnd,by simp,fun x hx y hy=>by rw[List.mem_singleton]at hy;subst hy;exact fun e=>hsn (e ▸ hx)⟩
   . rcases List.mem_append.1 hx with hx | hx
     . exact hin x hx
     . rw[List.mem_singleton]at hx;rw[hx];exact hs
   . have:=w6 (i:=0) hm;rw[Nat.zero_add]at this;rw[<- this,show met.length=(met.map ao).length from(List.length_map _).symm];rfl
   . rw[List.map_append];rfl
set_option maxHeartbeats 2000000 in
theorem tv(w:aQ)(hF:jr w):NQ.Fn cx 32 [.agg (bp w)] (.tuple [.d (.slice 1 ((oz w).1.map ao)), .d (.int .i64 (oz w).2)]) []:=by
 show NQ.Fn cxZ _ _ _ _
 have fV:=o9 w hF;unfold oz;refine sv (fun | 10=>[19] | 12=>[44444] | 13=>[88888] | _=>[]) tyZ pX Tryz.func32 (by kernel_rfl) rfl (Nat.le_of_ble_eq_true rfl) ?_
 conv=>whnf
 (refine⟨_,_,fV,?_⟩;conv=>whnf)
 cases hv:aX w with
 | false =>
  rw[if_neg (by simp)]
  conv=>whnf
  exact af rfl rfl
 | true =>
 rw[if_pos rfl];have hg:=qI hF hv;have hzl:=hF.zones;have hal:=gu w.zones;have hav:∀a∈ar w.zones,ai a=true:=fun a ha=>dW hg ((cj w.zones a).2 (ck.1 ha))
 conv=>whnf
 (refine⟨_,_,tM w hF hv,?_⟩;conv=>whnf)
 refine ⟨Nat, fun k => ⟨[(4, .ptr 4 0), (5, .ptr 5 0), (21, .d (.slice 1 ((ar w.zones).map ao))), (22, .d (.int .i64 (((ar w.zones).map ao).length : Int))), (23, .d (.int .i64 k))],
     [(4, .box ((cr w.zones).map .d)),(5, .box [.omap 19]),(19, .smap (lv w.zones ((ar w.zones).take k)))]⟩,fun k=>k<=(ar w.zones).length,fun k=>(ar w.zones).length-k,
  ⟨0,Nat.zero_le _,ah.keep ⟨⟨rfl,rfl⟩,⟨rfl,rfl⟩,⟨rfl,rfl⟩,⟨rfl,rfl⟩,⟨rfl,rfl⟩,trivial⟩ ⟨⟨rfl,rfl⟩,⟨rfl,rfl⟩,⟨rfl,rfl⟩,trivial⟩⟩,fun k hk=>?_⟩
 dsimp only at hk ⊢
 conv=>whnf
 refine ae (fun h1=>?_) (fun h1=>?_) <;> (rw[h1];conv=>whnf)
 . have hlt:k<(ar w.zones).length:=by simpa using h1
   obtain⟨a,ha⟩:∃a,(ar w.zones)[k]? =some a:=⟨_,List.getElem?_eq_getElem hlt⟩
   have ham:=List.mem_of_getElem? ha;have hnew:((ar w.zones).take k).contains a=false:=by
    rw[Bool.eq_false_iff];intro e;obtain⟨j,hj⟩:=List.getElem?_of_mem (List.contains_iff_mem.1 e);have hjl:=(List.getElem?_eq_some_iff.1 hj).1;rw[List.length_take]at hjl;rw[List.getElem?_take_of_lt (by omega)]at hj;have:=oO (Aw w.zones) hj ha;omega
   refine⟨Int.natCast_nonneg k,ao a,az ha,?_⟩
   conv=>whnf
   (refine⟨(by kernel_rfl:aT _ _=true),?_⟩;conv=>whnf)
   (refine⟨_,_,MI w.zones a hg (hav a ham),?_⟩;conv=>whnf)
   refine⟨k+1,hlt,by(show(ar w.zones).length-(k+1)<(ar w.zones).length-k;omega),ah.keep ⟨⟨rfl,rfl⟩,⟨rfl,rfl⟩,⟨rfl,rfl⟩,⟨rfl,rfl⟩,⟨aj (by omega),rfl⟩,trivial⟩ ⟨⟨rfl,rfl⟩,⟨rfl,rfl⟩,⟨?_,rfl⟩,trivial⟩⟩;rw[aS ha, <- xd w.zones hnew];rfl
 . obtain rfl:k=(ar w.zones).length:=by simp at h1;omega
   rw[List.take_length];refine⟨⟨[(4, .ptr 100004 0),(5, .ptr 100005 0),(8, .ptr 100008 0),(9, .ptr 100009 0)],hG w.zones []⟩,(kB.ren [4,5,8,9] (by kernel_rfl)).trans (ah.zero (ah.keep ⟨⟨(by kernel_rfl),(by kernel_rfl)⟩,⟨(by kernel_rfl),(by kernel_rfl)⟩,⟨(by kernel_rfl),(by kernel_rfl)⟩,⟨(by kernel_rfl),(by kernel_rfl)⟩,trivial⟩ ⟨⟨(by kernel_rfl),(by kernel_rfl)⟩,⟨(by kernel_rfl),(by kernel_rfl)⟩,⟨(by kernel_rfl),(by kernel_rfl)⟩,⟨(by kernel_rfl),(by kernel_rfl)⟩,⟨(by kernel_rfl),(by kernel_rfl)⟩,trivial⟩)),?_⟩
   conv=>whnf
   refine⟨List Bs,fun r=>⟨[(4, .ptr 100004 0),(8, .ptr 100008 0),(10, .fn 81 [] [.ptr 100004 0, .ptr 100008 0, .ptr 100005 0, .ptr 100009 0])],hG w.zones r⟩,
    fun r=>NP.Reach w.zones r/\ ∃k,ib w.zones k r=c8 w.zones/\(ar w.zones).length<k+r.length,fun r=>(ar w.zones).length+1-r.length,
    ⟨[],⟨NP.Reach.nil _,(ar w.zones).length+1,rfl,by simp⟩,ah.keep ⟨⟨rfl,rfl⟩,⟨rfl,rfl⟩,⟨rfl,rfl⟩,trivial⟩ ⟨⟨rfl,rfl⟩,⟨rfl,rfl⟩,⟨rfl,rfl⟩,⟨rfl,rfl⟩,⟨rfl,rfl⟩,trivial⟩⟩,fun r ⟨hR,k,hk,hkl⟩=>?_⟩
   conv=>whnf
   refine⟨[],_,_,Ke w.zones r hg hzl,⟨⟨by kernel_rfl,by kernel_rfl⟩,by kernel_rfl,by kernel_rfl,by kernel_rfl⟩,?_⟩
   conv=>whnf
   refine ae (fun h2=>?_) (fun h2=>?_) <;> (rw[h2];conv=>whnf)
   . have hlt:r.length<(dx w.zones r).length:=of_decide_eq_true h2;have hlen:=hR.next.len
     have hlen' :=hR.len;obtain⟨k,rfl⟩:∃j,k=j+1:=⟨k-1,by
      have:0<k:=by
       rcases Nat.eq_zero_or_pos k with e | e
       . omega
       . exact e
      omega⟩
     exact⟨dx w.zones r,⟨hR.next,k,hk,by omega⟩,by(show(ar w.zones).length+1-(dx w.zones r).length<(ar w.zones).length+1-r.length;omega),ah.keep ⟨⟨rfl,rfl⟩,⟨rfl,rfl⟩,⟨rfl,rfl⟩,trivial⟩ ⟨⟨rfl,rfl⟩,⟨rfl,rfl⟩,⟨rfl,rfl⟩,⟨rfl,rfl⟩,⟨rfl,rfl⟩,trivial⟩⟩
   . have hnot:¬r.length<(dx w.zones r).length:=of_decide_eq_false h2;have hle:r.length<=(dx w.zones r).length:=oI w.zones (ar w.zones) r;have hfix:dx w.zones r=r:=(oH (by show(dx w.zones r).length=r.length;omega)).1;rw[qX hfix]at hk;rw[hfix,hk];have hfl:∀j,(((ar w.zones).take j).filter fun a=> !(c8 w.zones).contains a).length<=1000:=fun j=>by
      have:=List.length_filter_le (fun a=> !(c8 w.zones).contains a) ((ar w.zones).take j);have:=List.length_take_le' j (ar w.zones);omega
     refine ⟨Nat, fun j => ⟨[(8, .ptr 100008 0), (11, .own 11), (39, .d (.slice 1 ((ar w.zones).map ao))), (40, .d (.int .i64 (((ar w.zones).map ao).length : Int))), (41, .d (.int .i64 j))],
         [(100008, .box [.omap 33]),(33, .smap (jo (c8 w.zones))),(11, .row 9 1 ((((ar w.zones).take j).filter fun a=> !(c8 w.zones).contains a).map ao))]⟩,fun j=>j<=(ar w.zones).length,fun j=>(ar w.zones).length-j,
      ⟨0,Nat.zero_le _,(ah.j6 11 11 1 9 1 rfl rfl (by decide)).trans (ah.keep ⟨⟨rfl,rfl⟩,⟨rfl,rfl⟩,⟨rfl,rfl⟩,⟨rfl,rfl⟩,⟨rfl,rfl⟩,trivial⟩ ⟨⟨rfl,rfl⟩,⟨rfl,rfl⟩,⟨rfl,rfl⟩,trivial⟩)⟩,fun j hj=>?_⟩
     dsimp only at hj ⊢
     conv=>whnf
     refine ae (fun h3=>?_) (fun h3=>?_) <;> (rw[h3];conv=>whnf)
     . have hlt:j<(ar w.zones).length:=by simpa using h3
       obtain⟨a,ha⟩:∃a,(ar w.zones)[j]? =some a:=⟨_,List.getElem?_eq_getElem hlt⟩
       have hf:=hfl j;refine⟨Int.natCast_nonneg j,ao a,az ha,?_⟩
       conv=>whnf
       rw[lA];cases hc:(c8 w.zones).contains a with
       | true =>
        conv=>whnf
        refine⟨j+1,hlt,by(show(ar w.zones).length-(j+1)<(ar w.zones).length-j;omega),ah.keep ⟨⟨rfl,rfl⟩,⟨rfl,rfl⟩,⟨rfl,rfl⟩,⟨rfl,rfl⟩,⟨aj (by omega),rfl⟩,trivial⟩ ⟨⟨rfl,rfl⟩,⟨rfl,rfl⟩,⟨?_,rfl⟩,trivial⟩⟩;rw[aS ha,List.filter_append,List.filter_cons_of_neg (by rw[hc];simp),List.filter_nil,List.append_nil];rfl
       | false =>
        conv=>whnf
        refine⟨by(show((((ar w.zones).take j).filter fun a=> !(c8 w.zones).contains a).map ao).length+1<=_);rw[List.length_map];omega,by(show(((((ar w.zones).take j).filter fun a=> !(c8 w.zones).contains a).map ao).length+1)*16<=_);rw[List.length_map];omega,?_⟩
        conv=>whnf
        refine⟨j+1,hlt,by(show(ar w.zones).length-(j+1)<(ar w.zones).length-j;omega),ah.keep ⟨⟨rfl,rfl⟩,⟨rfl,rfl⟩,⟨rfl,rfl⟩,⟨rfl,rfl⟩,⟨aj (by omega),rfl⟩,trivial⟩ ⟨⟨rfl,rfl⟩,⟨rfl,rfl⟩,⟨?_,rfl⟩,trivial⟩⟩;rw[aS ha,List.filter_append,List.filter_cons_of_pos (by rw[hc];rfl),List.filter_nil,List.map_append];rfl
     . obtain rfl:j=(ar w.zones).length:=by simp at h3;omega
       rw[List.take_length];exact af rfl rfl
end Go.Proofs.YtcecidfnchcagaaGreatDoor
namespace NP
open NQ Go
def beM(be:List (Bs×Bs)):List (Bs×D):=be.map fun p=>(p.1, .str p.2)
theorem vi(n:Bs):∀be:List (Bs×Bs),bJ n (beM be)=if lz be n=true then some (.str (nu be n))else none
 | []=>rfl
 | (b,v)::t=>by
  show(if n=b then _ else bJ n (beM t))=_
  rw[vi n t];unfold lz nu;rw[List.any_cons,List.find?_cons];by_cases h:n=b
  . subst h;simp
  . have:(b==n)=false:=by simpa using fun e:b=n=>h e.symm
    rw[if_neg h,this,Bool.false_or]
theorem DP{n a:Bs}:∀{be:List (Bs×Bs)},lz be n=false->bM n (.str a) (beM be)=beM (be++[(n,a)])
 | [],_=>rfl
 | (b,v)::t,h=>by
  have h:((b==n)||lz t n)=false:=h;rw[Bool.or_eq_false_iff]at h;have hne:¬n=b:=fun e=>by have:=h.1;rw[e]at this;simp at this
  show(if n=b then _ else(b,_)::bM n _ (beM t))=_
  rw[if_neg hne,DP h.2];rfl
theorem oV{zone a:Bs}:∀(t qu:List Bs) (be:List (Bs×Bs)),be.length<=(cu zone a t qu be).2.2.length/\qu.length<=(cu zone a t qu be).2.1.length
 | [],qu,be=>⟨Nat.le_refl _,Nat.le_refl _⟩
 | n::t,qu,be=>by
  unfold cu;split
  . exact⟨Nat.le_refl _,Nat.le_refl _⟩
  . split
    . exact oV t qu be
    . have:=oV (zone:=zone) (a:=a) t (qu++[n]) (be++[(n,a)]);simp at this;omega
theorem Jr{zs:List ag}(hg:bU zs){zone a:Bs}(hv:ai zone=true){f:Nat}{P qu:List Bs}{be:List (Bs×Bs)}{ds:List Nat}(h:eV zs zone P (a::qu) be ds)(hf:2*((ar zs).length-be.length)+(a::qu).length<f+1) :
 ai a=true/\(∀n∈aK zs a,n∈ar zs)/\(cu zone a (aK zs a) qu be).2.2.length<=(ar zs).length/\(cu zone a (aK zs a) qu be).2.1.length<=(ar zs).length+1 /\
  ((cu zone a (aK zs a) qu be).1=true-> ∃ds',eV zs zone P (a::(cu zone a (aK zs a) qu be).2.1) (cu zone a (aK zs a) qu be).2.2 ds') /\
  ((cu zone a (aK zs a) qu be).1=false-> ∃ds',eV zs zone (P++[a]) (cu zone a (aK zs a) qu be).2.1 (cu zone a (aK zs a) qu be).2.2 ds' /\2*((ar zs).length-(cu zone a (aK zs a) qu be).2.2.length)+(cu zone a (aK zs a) qu be).2.1.length<f):=by
 have ham:a∈zone::be.map (·.1):=by rw[<- h.all];simp
 have hav:ai a=true:=by
  rcases List.mem_cons.1 ham with rfl | hm
  . exact hv
  . obtain⟨p,hp,rfl⟩:=List.mem_map.1 hm;exact dW hg ((cj zs _).2 (ck.1 (h.keys p hp)))
 have hkeys:∀n∈aK zs a,n∈ar zs:=fun n hn=>ck.2 ((cj zs n).1 (sN hg hav n hn))
 obtain⟨ds',i1,i2,i3,i4,i5,i6⟩:=tV hkeys (aK zs a) qu be ds h fun n hn=>hn
 have h1:=i1.rP;have h2:=h.rP;have h3:=oV (zone:=zone) (a:=a) (aK zs a) qu be;have h4:=congrArg List.length i1.all;simp only[List.length_append,List.length_cons,List.length_map]at h4;refine⟨hav,hkeys,h1,by omega,fun _=>⟨ds',i1⟩,fun hs=>?_⟩;obtain⟨j1,j2⟩:=i3 hs;refine⟨ds',i1.next j1 j2,?_⟩;simp at hf;omega
theorem Io{zs:List ag}{zone last:Bs}{P Q:List Bs}{be:List (Bs×Bs)}{ds:List Nat}(h:eV zs zone P Q be ds){i:Nat}(hi:(zone::be.map (·.1))[i]? =some last)(hz:last ≠ zone) :
 lz be last=true/\ ∃i',i' <i/\(zone::be.map (·.1))[i']? =some (nu be last):=by
 obtain⟨j,rfl⟩:∃j,i=j+1:=by
  rcases i with _ | j
  . cases hi;exact absurd rfl hz
  . exact⟨j,rfl⟩
 have hi' :(be.map (·.1))[j]? =some last:=by simpa using hi
 refine⟨vR.2 (List.mem_of_getElem? hi'),?_⟩;rw[List.getElem?_map]at hi';cases hb:be[j]? with
 | none=>rw[hb]at hi';cases hi'
 | some pr =>
  obtain⟨n,a⟩:=pr;rw[hb]at hi';have:n=last:=by simpa using hi'
  subst this;obtain⟨hm,i',d,h1,h2,h3,h4⟩:=h.par j n a hb;rw[Et h hb];exact⟨i',by omega,h2⟩
end NP
namespace Go.Proofs.YtcecidfnchcagaaGreatDoor
open NQ Go NP Go.RowKit
noncomputable def cxQ:Cx:={cx with chg:=fun g=>match Nat.beq g 90 with | true=>2 | false=>cx.chg g}
theorem tyQ:aO cxQ:=aH
theorem Ic:cxQ.P.follows .mixedOrders=true:=mixed
def inC:Code->Code
 | .scope c=>c
 | c=>c
def fzQ:Nat->List Nat
 | 9=>[88888]
 | 18=>[88888]
 | 20=>[55555]
 | _=>[]
theorem H5(zs:List ag)(zone:Bs)(x:Bs×List (Bs×Bs)){P Q:List Bs}{ds:List Nat}(h:eV zs zone P Q x.2 ds)(hx:x.1∈zone::x.2.map (·.1))(hl:x.2.length<=10000)(st:St)
 (hs:ah cxQ st ⟨[(1, .d (.str zone)),(9, .omap 28),(10, .d (.str x.1)),(11, .d (.bool true))],[(28, .smap (beM x.2))]⟩) :
 vc cxQ Tryz.f37.ntmps fzQ (tX 7 (inC (tX 1 ((Tryz.f37.body).getD .skip)))) (fnQ cxQ Tryz.f37.results.toList (.tuple [.d (.slice 1 ((x.1::lu x.2 zone (x.2.length+1) x.1).reverse.map ao)), .d (.bool true), .d (.int .i64 0)]) []) st:=by
 obtain⟨last0,be⟩:=x;dsimp only at h hx hl hs ⊢;obtain⟨i0,hi0⟩:=List.getElem?_of_mem hx;have hi0l:i0<be.length+1:=by have:=(List.getElem?_eq_some_iff.1 hi0).1;simpa using this
 conv=>whnf
 refine⟨_,hs,?_⟩
 conv=>whnf
 refine⟨Nat×Bs×List Bs,fun y=>⟨[(1, .d (.str zone)),(9, .omap 28),(10, .d (.str y.2.1)),(18, .own 70)],[(28, .smap (beM be)),(70, .row 9 1 (y.2.2.map ao))]⟩,
  fun y=>y.2.2++lu be zone y.1 y.2.1=last0::lu be zone (be.length+1) last0/\(∃i,i<y.1/\(zone::be.map (·.1))[i]? =some y.2.1)/\y.1+y.2.2.length=be.length+2,fun y=>y.1,
  ⟨(be.length+1,last0,[last0]),⟨rfl,⟨i0,hi0l,hi0⟩,rfl⟩,ah.keep ⟨⟨rfl,rfl⟩,⟨rfl,rfl⟩,⟨rfl,rfl⟩,⟨rfl,rfl⟩,trivial⟩ ⟨⟨rfl,rfl⟩,⟨rfl,rfl⟩,trivial⟩⟩,fun⟨f,last,l⟩ ⟨hinv,⟨i,hi,hil⟩,hfl⟩=>?_⟩
 dsimp only at hinv hi hil hfl ⊢;obtain⟨f,rfl⟩:∃g,f=g+1:=⟨f-1,by omega⟩
 rw[lu]at hinv
 conv=>whnf
 refine ae (fun h1=>?_) (fun h1=>?_) <;> (rw[h1];conv=>whnf)
 . have hne:last ≠ zone:=by simpa using h1
   rw[if_neg hne]at hinv;obtain⟨p1,i',p2,p3⟩:=Io h hil hne;rw[vi,p1]
   conv=>whnf
   refine⟨by(show(l.map ao).length+1<=_);simp;omega,by(show((l.map ao).length+1)*16<=_);simp;omega,?_⟩
   conv=>whnf
   refine⟨(f,nu be last,l++[nu be last]),⟨by rw[<- hinv];simp,⟨i',by omega,p3⟩,by simp;omega⟩,by(show f<f+1;omega),ah.keep ⟨⟨rfl,rfl⟩,⟨rfl,rfl⟩,⟨rfl,rfl⟩,⟨rfl,rfl⟩,trivial⟩ ⟨⟨rfl,rfl⟩,⟨?_,rfl⟩,trivial⟩⟩;rw[List.map_append];rfl
 . have hz:last=zone:=by simpa using h1
   rw[if_pos hz,List.append_nil]at hinv;rw[<- hinv];refine⟨_,Nd (cx' :=cxQ) rfl rfl (Dv l (by omega) _),?_⟩
   conv=>whnf
   exact af rfl rfl
set_option maxHeartbeats 2000000 in
theorem sJ(w:aQ)(zone:Bs)(hF:jr w):NQ.Fn cx 37 [.agg (bp w), .str zone] (.tuple [.d (.slice 1 ((jE w zone).1.map ao)), .d (.bool (jE w zone).2.1), .d (.int .i64 (jE w zone).2.2)]) []:=by
 show NQ.Fn cxQ _ _ _ _
 unfold jE;by_cases h0:cH w zone=0
 case neg =>
  rw[if_neg h0];have fB:=pS w zone hF h0;generalize cH w zone=e at *
  have he:(e != 0)=true:=by simpa using h0
  refine cw fzQ tyQ Ic Tryz.func37 (by kernel_rfl) rfl (Nat.le_of_ble_eq_true rfl) ?_
  conv=>whnf
  (refine⟨_,_,fB,?_⟩;conv=>whnf)
  rw[he]
  conv=>whnf
  exact af rfl rfl
 obtain⟨hv,hzv,hzc⟩:=lh h0;rw[if_pos h0];have hg:=qI hF hv;have hal:=gu w.zones;have hzl:=hF.zones;have hend:=H5 w.zones zone;have hF0:bN w.zones zone=match lP w.zones zone (2*(ar w.zones).length+2) [zone] []with | none=>[] | some x=>(x.1::lu x.2 zone (x.2.length+1) x.1).reverse:=rfl
 rw[hF0];refine cw fzQ tyQ Ic Tryz.func37 (by kernel_rfl) rfl (Nat.le_of_ble_eq_true rfl) ?_
 conv=>whnf
 (refine⟨_,_,rC w zone hF h0,?_⟩;conv=>whnf)
 refine⟨Nat×List Bs×List (Bs×Bs),fun x=>⟨[(1, .d (.str zone)),(7, .ptr 7 0),(9, .omap 28),(10, .d (.str [])),(11, .d (.bool false)),(12, .own 30)],[(7, .box ((cr w.zones).map .d)),(28, .smap (beM x.2.2)),(30, .tail 9 1 (x.2.1.map ao))]⟩,
  fun x=>(∃P ds,eV w.zones zone P x.2.1 x.2.2 ds)/\2*((ar w.zones).length-x.2.2.length)+x.2.1.length<x.1/\lP w.zones zone x.1 x.2.1 x.2.2=lP w.zones zone (2*(ar w.zones).length+2) [zone] [],fun x=>x.1,
  ⟨(2*(ar w.zones).length+2,[zone],[]),⟨⟨[],[0],eV.start _ _⟩,by simp,rfl⟩,(ah.tail 30 9 1 [ao zone] (by kernel_rfl)).trans (ah.keep ⟨⟨rfl,rfl⟩,⟨rfl,rfl⟩,⟨rfl,rfl⟩,⟨rfl,rfl⟩,⟨rfl,rfl⟩,⟨rfl,rfl⟩,trivial⟩ ⟨⟨rfl,rfl⟩,⟨rfl,rfl⟩,⟨rfl,rfl⟩,trivial⟩)⟩,fun⟨f,qu,be⟩ ⟨⟨P,ds,hB⟩,hf,hinv⟩=>?_⟩
 dsimp only at hB hf hinv ⊢
 conv=>whnf
 cases qu with
 | nil =>
  obtain⟨f,rfl⟩:∃g,f=g+1:=⟨f-1,by omega⟩
  rw[<- hinv]
  conv=>whnf
  refine⟨_,ah.refl _,?_⟩
  conv=>whnf
  exact af rfl rfl
 | cons a qu =>
  obtain⟨f,rfl⟩:∃g,f=g+1:=⟨f-1,by omega⟩
  obtain⟨hav,hkeys,b1,b2,hyes,hno⟩:=Jr hg hzv hB hf;have hnl:(aK w.zones a).length<=(ar w.zones).length:=iU (uH w.zones a) hkeys;rw[lP]at hinv;have hpos:decide ((((a::qu).map ao).length:Int)>0)=true:=decide_eq_true (by simp);rw[show decide ((((a::qu).map ao).length:Int)>0)=true from hpos]
  conv=>whnf
  refine⟨by decide,by(show 0<((a::qu).map ao).length);simp,?_⟩
  conv=>whnf
  refine⟨ao a,rfl,?_⟩
  conv=>whnf
  refine⟨⟨by decide,by(show 1<=((a::qu).map ao).length);simp⟩,?_⟩
  conv=>whnf
  (refine⟨_,_,BB w.zones a hg hav,?_⟩;conv=>whnf)
  generalize hS:cu zone a (aK w.zones a) qu be=S at *
  refine⟨Nat×List Bs×List (Bs×Bs),fun x=>⟨[(1, .d (.str zone)),(7, .ptr 7 0),(9, .omap 28),(10, .d (.str [])),(11, .d (.bool false)),(12, .own 30),(13, .d (.str a)),(41, .d (.slice 1 ((aK w.zones a).map ao))),(42, .d (.int .i64 (((aK w.zones a).map ao).length:Int))),(43, .d (.int .i64 x.1))],[(7, .box ((cr w.zones).map .d)),(28, .smap (beM x.2.2)),(30, .tail 9 1 (x.2.1.map ao))]⟩,
   fun x=>x.1<=(aK w.zones a).length/\cu zone a ((aK w.zones a).drop x.1) x.2.1 x.2.2=S,fun x=>(aK w.zones a).length-x.1,
   ⟨(0,qu,be),⟨Nat.zero_le _,hS⟩,ah.keep ⟨⟨rfl,rfl⟩,⟨rfl,rfl⟩,⟨rfl,rfl⟩,⟨rfl,rfl⟩,⟨rfl,rfl⟩,⟨rfl,rfl⟩,⟨rfl,rfl⟩,⟨rfl,rfl⟩,⟨rfl,rfl⟩,⟨rfl,rfl⟩,trivial⟩ ⟨⟨rfl,rfl⟩,⟨rfl,rfl⟩,⟨rfl,rfl⟩,trivial⟩⟩,fun⟨k,qu',be'⟩ ⟨hk,hsc⟩=>?_⟩
  dsimp only at hk hsc ⊢;have hgr:=oV (zone:=zone) (a:=a) ((aK w.zones a).drop k) qu' be';rw[hsc]at hgr
  conv=>whnf
  refine ae (fun h1=>?_) (fun h1=>?_) <;> (rw[h1];conv=>whnf)
  . have hlt:k<(aK w.zones a).length:=by simpa using h1
    obtain⟨n,hn⟩:∃n,(aK w.zones a)[k]? =some n:=⟨_,List.getElem?_eq_getElem hlt⟩
    rw[drop_cons hn,cu]at hsc;refine⟨Int.natCast_nonneg k,ao n,az hn,?_⟩
    conv=>whnf
    refine ae (fun h2=>?_) (fun h2=>?_) <;> (rw[h2];conv=>whnf)
    . have hnz:n=zone:=by simpa using h2
      rw[if_pos hnz]at hsc;rw[<- hsc]at hyes hinv;obtain⟨ds',hB'⟩:=hyes rfl;rw[if_pos rfl]at hinv;rw[<- hinv];have hlen:=hB'.rP;have hpl:decide (0<(a::lu be' zone (be'.length+1) a).reverse.length)=true:=decide_eq_true (by simp);dsimp only;rw[hpl];exact hend (a,be') hB' (by rw[<- hB'.all];simp) (by show be'.length<=10000;omega) _ (ah.keep ⟨⟨rfl,rfl⟩,⟨rfl,rfl⟩,⟨rfl,rfl⟩,⟨rfl,rfl⟩,trivial⟩ ⟨⟨rfl,rfl⟩,trivial⟩)
    . have hnz:n ≠ zone:=by simpa using h2
      rw[if_neg hnz]at hsc;rw[vi];cases hse:lz be' n with
      | true =>
       rw[if_pos hse]at hsc
       conv=>whnf
       exact⟨(k+1,qu',be'),⟨hlt,hsc⟩,by(show(aK w.zones a).length-(k+1)<(aK w.zones a).length-k;omega),ah.keep ⟨⟨rfl,rfl⟩,⟨rfl,rfl⟩,⟨rfl,rfl⟩,⟨rfl,rfl⟩,⟨rfl,rfl⟩,⟨rfl,rfl⟩,⟨rfl,rfl⟩,⟨rfl,rfl⟩,⟨rfl,rfl⟩,⟨aj (by omega),rfl⟩,trivial⟩ ⟨⟨rfl,rfl⟩,⟨rfl,rfl⟩,⟨rfl,rfl⟩,trivial⟩⟩
      | false =>
       rw[if_neg (by rw[hse];simp)]at hsc
       conv=>whnf
       refine⟨by(show(qu'.map ao).length+1<=_);simp;omega,by(show((qu'.map ao).length+1)*16<=_);simp;omega,?_⟩
       conv=>whnf
       refine⟨(k+1,qu' ++[n],be' ++[(n,a)]),⟨hlt,hsc⟩,by(show(aK w.zones a).length-(k+1)<(aK w.zones a).length-k;omega),ah.keep ⟨⟨rfl,rfl⟩,⟨rfl,rfl⟩,⟨rfl,rfl⟩,⟨rfl,rfl⟩,⟨rfl,rfl⟩,⟨rfl,rfl⟩,⟨rfl,rfl⟩,⟨rfl,rfl⟩,⟨rfl,rfl⟩,⟨aj (by omega),rfl⟩,trivial⟩ ⟨⟨rfl,rfl⟩,⟨?_,rfl⟩,⟨?_,rfl⟩,trivial⟩⟩
       . rw[<- DP hse];rfl
       . rw[List.map_append];rfl
  . obtain rfl:k=(aK w.zones a).length:=by simp at h1;omega
    rw[List.drop_length]at hsc;rw[<- hsc]at hno hinv;obtain⟨ds',hB',hf'⟩:=hno rfl;rw[if_neg (by simp[cu])]at hinv;exact⟨(f,qu',be'),⟨⟨P++[a],ds',hB'⟩,hf',hinv⟩,by(show f<f+1;omega),ah.keep ⟨⟨rfl,rfl⟩,⟨rfl,rfl⟩,⟨rfl,rfl⟩,⟨rfl,rfl⟩,⟨rfl,rfl⟩,⟨rfl,rfl⟩,trivial⟩ ⟨⟨rfl,rfl⟩,⟨rfl,rfl⟩,⟨rfl,rfl⟩,trivial⟩⟩
end Go.Proofs.YtcecidfnchcagaaGreatDoor
namespace NP
open NQ Go
def tY(n:Bs)(t:Int)(to:Bs):eZ:=⟨n,t,0,[tx to]⟩
def NC(a:Bs):eZ:=⟨a,4,0,[⟨[],1,0⟩]⟩
def gn(a host:Bs)(l:List eZ):List eZ:=tY a 2 host::NC a::l
def sgn(s:eZ):Signed:=⟨s,[]⟩
def Oa(a host:Bs)(l:List eZ):aA:=⟨a,(gn a host l).map sgn⟩
theorem yF{w:aQ}(h:ni w=true):jr w/\w.hosts.length<=70/\w.zones.length<=12:=by
 unfold ni at h;simp only[Bool.and_eq_true,decide_eq_true_eq]at h;obtain⟨h1,h2,_,_⟩:=J1 h.1;exact⟨h1,h2,by omega⟩
end NP
namespace Go.Proofs.YtcecidfnchcagaaGreatDoor
open NQ Go NP Go.RowKit
noncomputable def cxT:Cx:={cx with bld:=[11]}
theorem tyT:aO cxT:=aH
theorem Nl:cxT.P.follows .mixedOrders=true:=mixed
noncomputable def JO:Cx:={cx with bld:=[17]}
theorem Oy:aO JO:=aH
theorem Mv:JO.P.follows .mixedOrders=true:=mixed
noncomputable def JP:Cx:={cx with bld:=[5,9,12,19,21,23]}
theorem Oz:aO JP:=aH
theorem Mw:JP.P.follows .mixedOrders=true:=mixed
noncomputable def JQ:Cx:={cx with bld:=[96,106,111,116]}
theorem OA:aO JQ:=aH
theorem Mx:JQ.P.follows .mixedOrders=true:=mixed
theorem mP(n:Bs)(t:Int)(to:Bs):NQ.Fn cx 139 [.str n, .int .i64 t, .str to] (.agg ((jm (tY n t to)).map .d)) []:=by
 show NQ.Fn cxT _ _ _ _
 refine cw (fun _=>[]) tyT Nl Tryz.func139 (by kernel_rfl) rfl (Nat.le_of_ble_eq_true rfl) ?_
 conv=>whnf
 exact af rfl rfl
theorem tu(a host:Bs)(l:List eZ)(hl:l.length<=1000):NQ.Fn cx 138 [.str a, .str host, .slice 4 (l.map jm)] (.agg ((bt (Oa a host l)).map .d)) []:=by
 show NQ.Fn JO _ _ _ _
 refine cw (fun | 7=>[200] | _=>[]) Oy Mv Tryz.func138 (by kernel_rfl) rfl (Nat.le_of_ble_eq_true rfl) ?_
 conv=>whnf
 (refine⟨_,_,mP a 2 host,?_⟩;conv=>whnf)
 refine⟨by(show 2+(l.map jm).length<=_;simp;omega),by(show(2+(l.map jm).length)*56<=_;simp;omega),?_⟩
 conv=>whnf
 have hL:(gn a host l).length=2+l.length:=by unfold gn;simp;omega
 refine ⟨Nat, fun k => ⟨[(6, .ptr 6 0), (7, .ptr 7 0), (21, .d (.slice 4 ((gn a host l).map jm))), (22, .d (.int .i64 (((gn a host l).map jm).length : Int))), (23, .d (.int .i64 k))],
     [(6, .box [.d (.str []), .nil 5]),(7, .box [.d (.str a), .own 200]),(200, .row 79 5 ((((gn a host l).take k).map sgn).map ay))]⟩,fun k=>k<=(gn a host l).length,fun k=>(gn a host l).length-k,
  ⟨0,Nat.zero_le _,((ah.Oq [19]).trans (ah.qV 7 1 200 5 [.d (.str a), .nil 5] 79 5 (by kernel_rfl) rfl (by kernel_rfl) (by decide))).trans (ah.keep ⟨⟨rfl,rfl⟩,⟨rfl,rfl⟩,⟨by kernel_rfl,rfl⟩,⟨by kernel_rfl,rfl⟩,⟨rfl,rfl⟩,trivial⟩ ⟨⟨rfl,rfl⟩,⟨rfl,rfl⟩,⟨rfl,rfl⟩,trivial⟩)⟩,fun k hk=>?_⟩
 dsimp only at hk ⊢
 conv=>whnf
 refine ae (fun h1=>?_) (fun h1=>?_) <;> (rw[h1];conv=>whnf)
 . have hlt:k<(gn a host l).length:=by
    have:(k:Int)<(((gn a host l).map jm).length:Int):=of_decide_eq_true h1;rw[List.length_map]at this;omega
   obtain⟨s,hs⟩:∃s,(gn a host l)[k]? =some s:=⟨_,List.getElem?_eq_getElem hlt⟩
   refine⟨Int.natCast_nonneg k,jm s,az hs,?_⟩
   conv=>whnf
   have htl:((gn a host l).take k).length=k:=by rw[List.length_take];omega
   refine⟨by(show((((gn a host l).take k).map sgn).map ay).length+1<=_;simp;omega),by(show(((((gn a host l).take k).map sgn).map ay).length+1)*80<=_;simp;omega),?_⟩
   conv=>whnf
   refine⟨k+1,hlt,by(show(gn a host l).length-(k+1)<(gn a host l).length-k;omega),ah.keep ⟨⟨rfl,rfl⟩,⟨rfl,rfl⟩,⟨rfl,rfl⟩,⟨rfl,rfl⟩,⟨aj (by omega),rfl⟩,trivial⟩ ⟨⟨rfl,rfl⟩,⟨rfl,rfl⟩,⟨?_,rfl⟩,trivial⟩⟩;rw[aS hs,List.map_append,List.map_append];rfl
 . obtain rfl:k=(gn a host l).length:=by
    have:¬(k:Int)<(((gn a host l).map jm).length:Int):=of_decide_eq_false h1;rw[List.length_map]at this;omega
   rw[List.take_length];exact af rfl rfl
set_option maxHeartbeats 4000000 in
theorem gY:NQ.Fn cx 76 [] (.agg ((bp exL).map .d)) []:=by
 show NQ.Fn JP _ _ _ _
 have t1:=mP [120] 2 [104,46,121];have t2:=mP [121] 2 [104,46,120];have t3:=mP [108,46,120] 3 [109,46,120];have t4:=mP [109,46,120] 3 [108,46,120];have z1:=tu [46] [97] [tY [120] 2 [104,46,121],tY [121] 2 [104,46,120]] (by decide);have z2:=tu [120] [104,46,121] [tY [108,46,120] 3 [109,46,120],tY [109,46,120] 3 [108,46,120]] (by decide);have z3:=tu [121] [104,46,120] [] (by decide);refine cw (fun | 3=>[66666] | _=>[]) Oz Mw Tryz.func76 (by kernel_rfl) rfl (Nat.le_of_ble_eq_true rfl) ?_
 conv=>whnf
 (refine⟨_,_,t1,?_⟩;conv=>whnf)
 (refine⟨_,_,t2,?_⟩;conv=>whnf)
 (refine⟨_,_,z1,?_⟩;conv=>whnf)
 (refine⟨_,_,t3,?_⟩;conv=>whnf)
 (refine⟨_,_,t4,?_⟩;conv=>whnf)
 (refine⟨_,_,z2,?_⟩;conv=>whnf)
 (refine⟨(by kernel_rfl:jS _=true),?_⟩;conv=>whnf)
 repeat' (first
  | (refine⟨_,_,z3,?_⟩;conv=>whnf)
  | (exact af rfl rfl)
  | (refine⟨by kernel_rfl,?_⟩;conv=>whnf)
  | (refine⟨?_,?_⟩ <;> (conv=>whnf))
  | fail)
theorem oT(a b:List Bs)(ha:a.length<=100000)(hb:b.length<=100000):NQ.Fn cx 39 [.slice 1 (a.map ao), .slice 1 (b.map ao)] (.d (.bool (kv a b))) []:=by
 refine av aH mixed Tryz.func39 (by kernel_rfl) rfl (Nat.le_of_ble_eq_true rfl) ?_;conv=>whnf
 (refine⟨_,_,Lb a b ha hb,?_⟩;conv=>whnf)
 exact af rfl rfl
set_option maxHeartbeats 2000000 in
theorem mF:NQ.Fn cx 30 [] (.d (.bool true)) []:=by
 show NQ.Fn JQ _ _ _ _
 have a1:=yv exL [108,46,120] nD (by decide);rw[G8]at a1;have a2:=yv exL [120] nD (by decide);rw[JZ]at a2;have n1:=oN exL [120] nD;rw[Ha]at n1;have z1:=tv exL nD;rw[Hb]at z1;have l1:=sJ exL [120] nD;rw[G9]at l1;have n2:=oN exL [122] nD;rw[Nb]at n2;have z2:=tv exN L3;rw[Hc]at z2;have s1:=oT [[108,46,120],[109,46,120]] [[108,46,120],[109,46,120]] (by decide) (by decide);rw[show kv [[108,46,120],[109,46,120]] [[108,46,120],[109,46,120]]=true by decide]at s1;have s2:=oT [[121]] [[121]] (by decide) (by decide);rw[show kv [[121]] [[121]]=true by decide]at s2
 have s3:=oT [[120],[121]] [[120],[121]] (by decide) (by decide);rw[show kv [[120],[121]] [[120],[121]]=true by decide]at s3;refine cw (fun _=>[]) OA Mx Tryz.func30 (by kernel_rfl) rfl (Nat.le_of_ble_eq_true rfl) ?_
 conv=>whnf
 (refine⟨_,_,gY,?_⟩;conv=>whnf)
 (refine⟨_,_,a1,?_⟩;conv=>whnf)
 (refine⟨_,_,gY,?_⟩;conv=>whnf)
 (refine⟨_,_,a2,?_⟩;conv=>whnf)
 (refine⟨_,_,gY,?_⟩;conv=>whnf)
 (refine⟨_,_,n1,?_⟩;conv=>whnf)
 (refine⟨_,_,gY,?_⟩;conv=>whnf)
 (refine⟨_,_,z1,?_⟩;conv=>whnf)
 (refine⟨_,_,gY,?_⟩;conv=>whnf)
 (refine⟨_,_,l1,?_⟩;conv=>whnf)
 (refine⟨_,_,gY,?_⟩;conv=>whnf)
 (refine⟨_,_,n2,?_⟩;conv=>whnf)
 (refine⟨_,_,z2,?_⟩;conv=>whnf)
 (refine⟨_,_,s1,?_⟩;conv=>whnf)
 (refine⟨_,_,s2,?_⟩;conv=>whnf)
 (refine⟨_,_,s3,?_⟩;conv=>whnf)
 (refine⟨_,_,s3,?_⟩;conv=>whnf)
 exact af rfl rfl
theorem u3(w:aQ):NQ.Fn cx 31 [.agg (bp w)] (.d (.bool (ni w&&aX w))) []:=by
 refine av aH mixed Tryz.func31 (by kernel_rfl) rfl (Nat.le_of_ble_eq_true rfl) ?_;conv=>whnf
 (refine⟨_,_,Hd w,?_⟩;conv=>whnf)
 cases hf:ni w with
 | false =>
  conv=>whnf
  exact af rfl rfl
 | true =>
  conv=>whnf
  (refine⟨_,_,Gs w (yF hf).1,?_⟩;conv=>whnf)
  exact af rfl rfl
end Go.Proofs.YtcecidfnchcagaaGreatDoor
namespace NP
open NQ Go
theorem vY{l:List Bs}{k:Nat}{x z:Bs}(h:l[k]? =some x):(l.take (k+1)).contains z=((l.take k).contains z||(x==z)):=by
 rw[aS h,Bool.eq_iff_iff];simp only[List.contains_iff_mem,List.mem_append,List.mem_singleton,Bool.or_eq_true,beq_iff_eq];exact or_congr Iff.rfl eq_comm
theorem Ci{w:aQ}(h:(ni w&&aX w)=true):jr w/\aX w=true/\w.zones.length<=12/\w.hosts.length<=70:=by
 rw[Bool.and_eq_true]at h;obtain⟨h1,h2,h3⟩:=yF h.1;exact⟨h1,h.2,h3,h2⟩
theorem zN{w:aQ}{q:aI}(hv:aX w=true)(hq:bu q=true){a:Ans}(h:bD w.zones q=(a,true))(hk:(a.kind != 3)=true):kx w q=(⟨a.kind,a.sets,a.cut⟩,0):=by
 rw[IW hv hq];unfold jf;rw[h];rw[if_neg (by simp),if_pos hk];rfl
theorem Ob{zs:List ag}(hg:bU zs){s:Bs}{l:List Bs}(L:EJ zs s l)(hz:zs.length<=20):l.length<=100000:=by
 have h1:l.length<=(dC zs).length:=mH L.nodup fun x hx=>by
  obtain⟨j,hj⟩:=List.getElem?_of_mem hx;have hjl:=(List.getElem?_eq_some_iff.1 hj).1;obtain⟨i,hi,e⟩:∃i,i<l.length/\(i+1) % l.length=j:=by
   rcases Nat.eq_zero_or_pos j with rfl | h
   . exact⟨l.length-1,by omega,by rw[show l.length-1+1=l.length by omega,Nat.mod_self]⟩
   . exact⟨j-1,by omega,by rw[show j-1+1=j by omega,Nat.mod_eq_of_lt hjl]⟩
  obtain⟨n,hn⟩:∃n,l[i]? =some n:=⟨_,List.getElem?_eq_getElem hi⟩
  have:=L.lead i n hn;rw[e,hj]at this;exact(tJ hg (L.valid n (List.mem_of_getElem? hn)) this).2.1
 have h2:=uY (zs:=zs) fun p hp=>(hg p hp).1
 omega
end NP
namespace Go.Proofs.YtcecidfnchcagaaGreatDoor
open NQ Go NP Go.RowKit
set_option maxHeartbeats 2000000 in
theorem M0(w:aQ):NQ.Fn cx 14 [.agg (bp w)] (.d (.bool true)) []:=by
 have fU:=u3 w;cases hu:(ni w&&aX w)with
 | false =>
  rw[hu]at fU;refine av aH mixed Tryz.func14 (by kernel_rfl) rfl (Nat.le_of_ble_eq_true rfl) ?_;conv=>whnf
  (refine⟨_,_,mF,?_⟩;conv=>whnf)
  (refine⟨_,_,fU,?_⟩;conv=>whnf)
  exact af rfl rfl
 | true =>
 rw[hu]at fU;obtain⟨hF,hv,hzl,_⟩:=Ci hu;have hg:=qI hF hv;have hZ:oz w=(cN w.zones,0):=by unfold oz;rw[if_pos hv]
 have fZ:=tv w hF;rw[hZ]at fZ;have hal:=gu w.zones;have hzz:(cN w.zones).length<=(ar w.zones).length:=List.length_filter_le _ _;refine cw (fun | 22=>[66666] | _=>[]) aH mixed Tryz.func14 (by kernel_rfl) rfl (Nat.le_of_ble_eq_true rfl) ?_
 conv=>whnf
 (refine⟨_,_,mF,?_⟩;conv=>whnf)
 (refine⟨_,_,fU,?_⟩;conv=>whnf)
 (refine⟨_,_,fZ,?_⟩;conv=>whnf)
 (refine⟨_,_,C7 w hg (by omega),?_⟩;conv=>whnf)
 refine⟨Nat,fun k=>⟨[(1, .ptr 1 0),(3, .d (.bool true)),(4, .d (.slice 1 ((cN w.zones).map ao))),(30, .d (.slice 1 ((ar w.zones).map ao))),(31, .d (.int .i64 (((ar w.zones).map ao).length:Int))),(32, .d (.int .i64 k))],[(1, .box ((bp w).map .d))]⟩,
  fun k=>k<=(ar w.zones).length,fun k=>(ar w.zones).length-k,⟨0,Nat.zero_le _,ah.keep ⟨⟨rfl,rfl⟩,⟨rfl,rfl⟩,⟨rfl,rfl⟩,⟨rfl,rfl⟩,⟨rfl,rfl⟩,⟨rfl,rfl⟩,trivial⟩ ⟨⟨rfl,rfl⟩,trivial⟩⟩,fun k hk=>?_⟩
 dsimp only at hk ⊢
 conv=>whnf
 refine ae (fun h1=>?_) (fun h1=>?_) <;> (rw[h1];conv=>whnf)
 case refine_2=>exact af rfl rfl
 have hlt:k<(ar w.zones).length:=by simpa using h1
 obtain⟨z,hz⟩:∃z,(ar w.zones)[k]? =some z:=⟨_,List.getElem?_eq_getElem hlt⟩
 have hzm:=List.mem_of_getElem? hz;have hzv:ai z=true:=dW hg ((cj w.zones z).2 (ck.1 hzm));refine⟨Int.natCast_nonneg k,ao z,az hz,?_⟩
 conv=>whnf
 refine⟨Nat,fun j=>⟨[(1, .ptr 1 0),(3, .d (.bool true)),(4, .d (.slice 1 ((cN w.zones).map ao))),(30, .d (.slice 1 ((ar w.zones).map ao))),(31, .d (.int .i64 (((ar w.zones).map ao).length:Int))),(32, .d (.int .i64 k)),(7, .d (.str z)),(8, .d (.bool (((cN w.zones).take j).contains z))),(36, .d (.slice 1 ((cN w.zones).map ao))),(37, .d (.int .i64 (((cN w.zones).map ao).length:Int))),(38, .d (.int .i64 j))],[(1, .box ((bp w).map .d))]⟩,
  fun j=>j<=(cN w.zones).length,fun j=>(cN w.zones).length-j,⟨0,Nat.zero_le _,ah.keep ⟨⟨rfl,rfl⟩,⟨rfl,rfl⟩,⟨rfl,rfl⟩,⟨rfl,rfl⟩,⟨rfl,rfl⟩,⟨rfl,rfl⟩,⟨rfl,rfl⟩,⟨rfl,rfl⟩,⟨rfl,rfl⟩,⟨rfl,rfl⟩,⟨rfl,rfl⟩,trivial⟩ ⟨⟨rfl,rfl⟩,trivial⟩⟩,fun j hj=>?_⟩
 dsimp only at hj ⊢
 conv=>whnf
 refine ae (fun h2=>?_) (fun h2=>?_) <;> (rw[h2];conv=>whnf)
 . have hjl:j<(cN w.zones).length:=by simpa using h2
   obtain⟨x,hx⟩:∃x,(cN w.zones)[j]? =some x:=⟨_,List.getElem?_eq_getElem hjl⟩
   refine⟨Int.natCast_nonneg j,ao x,az hx,?_⟩
   conv=>whnf
   have hnext:=vY (z:=z) hx;cases hd:((cN w.zones).take j).contains z with
   | true =>
    rw[hd,Bool.true_or]at hnext
    conv=>whnf
    exact⟨j+1,hjl,by(show(cN w.zones).length-(j+1)<(cN w.zones).length-j;omega),ah.keep ⟨⟨rfl,rfl⟩,⟨rfl,rfl⟩,⟨rfl,rfl⟩,⟨rfl,rfl⟩,⟨rfl,rfl⟩,⟨rfl,rfl⟩,⟨rfl,rfl⟩,⟨by rw[hnext];rfl,rfl⟩,⟨rfl,rfl⟩,⟨rfl,rfl⟩,⟨aj (by omega),rfl⟩,trivial⟩ ⟨⟨rfl,rfl⟩,trivial⟩⟩
   | false =>
    rw[hd,Bool.false_or]at hnext
    conv=>whnf
    exact⟨j+1,hjl,by(show(cN w.zones).length-(j+1)<(cN w.zones).length-j;omega),ah.keep ⟨⟨rfl,rfl⟩,⟨rfl,rfl⟩,⟨rfl,rfl⟩,⟨rfl,rfl⟩,⟨rfl,rfl⟩,⟨rfl,rfl⟩,⟨rfl,rfl⟩,⟨by rw[hnext];rfl,rfl⟩,⟨rfl,rfl⟩,⟨rfl,rfl⟩,⟨aj (by omega),rfl⟩,trivial⟩ ⟨⟨rfl,rfl⟩,trivial⟩⟩
 . obtain rfl:j=(cN w.zones).length:=by simp at h2;omega
   rw[List.take_length];have again:k+1<=(ar w.zones).length:=hlt;cases hd:(cN w.zones).contains z with
   | true =>
    conv=>whnf
    exact⟨k+1,hlt,by(show(ar w.zones).length-(k+1)<(ar w.zones).length-k;omega),ah.keep ⟨⟨rfl,rfl⟩,⟨rfl,rfl⟩,⟨rfl,rfl⟩,⟨rfl,rfl⟩,⟨rfl,rfl⟩,⟨aj (by omega),rfl⟩,trivial⟩ ⟨⟨rfl,rfl⟩,trivial⟩⟩
   | false =>
    have hr:(c8 w.zones).contains z=true:=by
     have:=Gx hzm;rw[hd]at this;simpa using this.symm
    obtain⟨x,s,hx,hs,hp,ha⟩:=Du hg hr;obtain⟨hx1,hx2⟩:=kN hx;have hxi:=vj _ _ x hx;have fT:=Lf w ⟨z,2⟩ hF;rw[zN hv (sU hzv) ha rfl]at fT;have fC:=JI w.zones z (fun p hp=>(hg p hp).2) (by omega);rw[hx]at fC;have fF:=KV x.2.zone ⟨z,2⟩ (by have:=(fm (hg _ hx1).1).1;omega);have hq:qOf s=⟨z,2⟩:=by
     obtain⟨⟨sn,st,sl,sd⟩,sg⟩:=s;have h1:sn=z:=congrArg Prod.fst hp;have h2:st=2:=congrArg Prod.snd hp;subst h1;subst h2;rfl
    rw[<- hq,ix (hg _ hx1).2 hs,hq]at fF;dsimp only at fF fT;have hsn:(s.set.name==z)=true:=by
     have h1:s.set.name=z:=congrArg Prod.fst hp;rw[h1];simp
    conv=>whnf
    (refine⟨_,_,fT,?_⟩;conv=>whnf)
    (refine⟨_,_,fC,?_⟩;conv=>whnf)
    refine⟨by decide,ay s,rfl,?_⟩
    conv=>whnf
    rw[hsn]
    conv=>whnf
    refine⟨Int.natCast_nonneg x.1,bx x.2,az hxi,?_⟩
    conv=>whnf
    (refine⟨_,_,fF,?_⟩;conv=>whnf)
    have hself:(((s.set.data.map bG).length:Int)==((s.set.data.map bG).length:Int))=true:=by simp
    have hself2:(s.set.life==s.set.life)=true:=by simp
    have hself3:(((s.set.data.map bG).length:Int) != ((s.set.data.map bG).length:Int))=false:=by simp
    have hself4:(s.set.life != s.set.life)=false:=by simp
    (refine⟨(by kernel_rfl:jS _=true),?_⟩;conv=>whnf)
    repeat' (first
     | (refine⟨by decide,ay s,rfl,?_⟩;conv=>whnf)
     | (rw[hself];conv=>whnf)
     | (rw[hself2];conv=>whnf)
     | (rw[hself3];conv=>whnf)
     | (rw[hself4];conv=>whnf)
     | exact⟨k+1,hlt,by(show(ar w.zones).length-(k+1)<(ar w.zones).length-k;omega),ah.keep ⟨⟨rfl,rfl⟩,⟨rfl,rfl⟩,⟨rfl,rfl⟩,⟨rfl,rfl⟩,⟨rfl,rfl⟩,⟨aj (by omega),rfl⟩,trivial⟩ ⟨⟨rfl,rfl⟩,trivial⟩⟩
     | (refine⟨by kernel_rfl,?_⟩;conv=>whnf)
     | (refine⟨?_,?_⟩ <;> (conv=>whnf))
     | fail)
theorem Ny{c:Cx}{t:TypeId}(k n:Nat)(hk:k<n)(hn:n<=100000000):EX c .rem t (.d (.int .i64 (IntKind.i64.wrap ((k:Int)+1)))) (.d (.int .i64 (n:Int)))=some (.d (.int .i64 (((k+1) % n:Nat):Int))):=by
 have ew:IntKind.i64.wrap ((k:Int)+1)=((k+1:Nat):Int):=by rw[wrap_i64 (by omega) (by omega)];omega
 have e1:(IntKind.i64.wrap ((k:Int)+1)).tmod (n:Int)=(((k+1) % n:Nat):Int):=by
  rw[ew,Int.tmod_eq_emod_of_nonneg (by omega)];rfl
 have hb:(n:Int) ≠ 0:=by omega
 show(match kq .rem .i64 (IntKind.i64.wrap ((k:Int)+1)) (n:Int)with | some r=>some (AV.d r) | none=>none)=_
 unfold kq;rw[decide_eq_false hb];show some (AV.d (.int .i64 ((IntKind.i64.wrap ((k:Int)+1)).tmod (n:Int))))=_
 rw[e1]
end Go.Proofs.YtcecidfnchcagaaGreatDoor
namespace NP
open NQ Go
theorem CT{w:aQ}{z:Bs}(hg:bU w.zones)(hv:aX w=true)(h:z∈ar w.zones):cH w z=0:=by
 have hzv:ai z=true:=dW hg ((cj w.zones z).2 (ck.1 h));unfold cH;rw[if_neg (by rw[hv,hzv];simp),if_pos (ck.1 h)]
theorem H7{zs:List ag}(hg:bU zs){a:Bs}(ha:ai a=true):(bN zs a).length<=zs.length+1:=by
 rcases qN hg ha with ⟨h,_⟩ | L
 . rw[h];exact Nat.zero_le _
 . have h1:=mH L.nodup (b:=a::ar zs) fun x hx=>by
    rcases L.keys x hx with e | e
    . rw[e];exact List.mem_cons_self ..
    . exact List.mem_cons_of_mem _ e
   have:=gu zs;rw[List.length_cons]at h1;omega
theorem yX{zs:List ag}(hg:bU zs){a:Bs}(ha:ai a=true):(aK zs a).length<=zs.length:=by
 have:=mH (uH zs a) (b:=ar zs) fun x hx=>ck.2 ((cj _ _).1 (sN hg ha x hx))
 have:=gu zs;omega
end NP
namespace Go.Proofs.YtcecidfnchcagaaGreatDoor
open NQ Go NP Go.RowKit
def Ng:Nat->List Nat
 | 17=>[55555]
 | _=>[]
set_option maxHeartbeats 4000000 in
theorem H6(w:aQ)(a:Bs)(hF:jr w)(hv:aX w=true)(hzl:w.zones.length<=12)(ha:a∈ar w.zones)(st:St)
 (hs:ah cx st ⟨[(1, .d (.str a)),(2, .ptr 2 0),(5, .d (.bool true)),(6, .d (.slice 1 ((bN w.zones a).map ao))),(14, .omap 74)],[(2, .box ((bp w).map .d)),(74, .smap (jo []))]⟩) :
 vc cx Tryz.f7.ntmps Ng (tX 10 ((Tryz.f7.body).getD .skip)) (fnQ cx Tryz.f7.results.toList (.d (.bool true)) []) st:=by
 have hg:=qI hF hv;have hav:ai a=true:=dW hg ((cj w.zones a).2 (ck.1 ha));have hzone:=fun(i:Nat) (z:Bs)=>FJ (i:=i) (z:=z) hg ha
 have hll:=H7 hg hav;generalize hl:bN w.zones a=l at *
 conv=>whnf
 refine⟨_,hs,?_⟩
 conv=>whnf
 refine⟨Nat,fun k=>⟨[(1, .d (.str a)),(2, .ptr 2 0),(5, .d (.bool true)),(6, .d (.slice 1 (l.map ao))),(14, .omap 74),(75, .d (.slice 1 (l.map ao))),(76, .d (.int .i64 ((l.map ao).length:Int))),(77, .d (.int .i64 k))],[(2, .box ((bp w).map .d)),(74, .smap (jo (l.take k)))]⟩,
  fun k=>k<=l.length,fun k=>l.length-k,⟨0,Nat.zero_le _,ah.keep ⟨⟨rfl,rfl⟩,⟨rfl,rfl⟩,⟨rfl,rfl⟩,⟨rfl,rfl⟩,⟨rfl,rfl⟩,⟨rfl,rfl⟩,⟨rfl,rfl⟩,⟨rfl,rfl⟩,trivial⟩ ⟨⟨rfl,rfl⟩,⟨rfl,rfl⟩,trivial⟩⟩,fun k hk=>?_⟩
 dsimp only at hk ⊢
 conv=>whnf
 refine ae (fun h1=>?_) (fun h1=>?_) <;> (rw[h1];conv=>whnf)
 case refine_2=>exact af rfl rfl
 have hlt:k<l.length:=by simpa using h1
 obtain⟨z,hz⟩:∃z,l[k]? =some z:=⟨_,List.getElem?_eq_getElem hlt⟩
 obtain⟨hnd,hhead,hzk,hlen,hpos,b,hb,hbn⟩:=hzone k z hz;have hzv:ai z=true:=dW hg ((cj w.zones z).2 (ck.1 hzk));have hE:=CT hg hv hzk;have fN:=oN w z hF;rw[show jG w z=(aK w.zones z,0) by unfold jG;rw[if_pos hE]]at fN;have fM:=sJ w z hF;rw[show jE w z=(bN w.zones z,decide (0<(bN w.zones z).length),0) by unfold jE;rw[if_pos hE]]at fM;rw[show decide (0<(bN w.zones z).length)=true from decide_eq_true hpos]at fM;have hnl:=yX hg hzv;have hbc:(aK w.zones z).contains b=true:=List.contains_iff_mem.2 hbn;generalize aK w.zones z=ns at *
 generalize bN w.zones z=m at *
 have hnew:(l.take k).contains z=false:=by
  rw[Bool.eq_false_iff];intro e;obtain⟨j,hj⟩:=List.getElem?_of_mem (List.contains_iff_mem.1 e);have hjl:=(List.getElem?_eq_some_iff.1 hj).1;rw[List.length_take]at hjl;rw[List.getElem?_take_of_lt (by omega)]at hj;have:=oO hnd hj hz;omega
 have er:=Ny (c:=cx) (t:=3) k (l.map ao).length (by rw[List.length_map];exact hlt) (by rw[List.length_map];omega);refine⟨Int.natCast_nonneg k,ao z,az hz,?_⟩
 conv=>whnf
 (refine⟨_,_,fN,?_⟩;conv=>whnf)
 (refine⟨_,_,fM,?_⟩;conv=>whnf)
 refine ⟨Nat, fun j => ⟨[(1, .d (.str a)), (2, .ptr 2 0), (5, .d (.bool true)), (6, .d (.slice 1 (l.map ao))), (14, .omap 74), (75, .d (.slice 1 (l.map ao))), (76, .d (.int .i64 ((l.map ao).length : Int))), (77, .d (.int .i64 k)), (15, .d (.int .i64 k)), (16, .d (.str z)), (18, .d (.int .i64 0)), (19, .d (.slice 1 (m.map ao))), (20, .d (.bool true)), (21, .d (.int .i64 0)), (22, .d (.bool ((ns.take j).contains b))), (95, .d (.slice 1 (ns.map ao))), (96, .d (.int .i64 ((ns.map ao).length : Int))), (97, .d (.int .i64 j))],
     [(2, .box ((bp w).map .d)),(74, .smap (jo (l.take k)))]⟩,fun j=>j<=ns.length,fun j=>ns.length-j,
  ⟨0,Nat.zero_le _,ah.keep ⟨⟨rfl,rfl⟩,⟨rfl,rfl⟩,⟨rfl,rfl⟩,⟨rfl,rfl⟩,⟨rfl,rfl⟩,⟨rfl,rfl⟩,⟨rfl,rfl⟩,⟨rfl,rfl⟩,⟨rfl,rfl⟩,⟨rfl,rfl⟩,⟨rfl,rfl⟩,⟨rfl,rfl⟩,⟨rfl,rfl⟩,⟨rfl,rfl⟩,⟨rfl,rfl⟩,⟨rfl,rfl⟩,⟨rfl,rfl⟩,⟨rfl,rfl⟩,trivial⟩ ⟨⟨rfl,rfl⟩,⟨rfl,rfl⟩,trivial⟩⟩,fun j hj=>?_⟩
 dsimp only at hj ⊢
 conv=>whnf
 refine ae (fun h2=>?_) (fun h2=>?_) <;> (rw[h2];conv=>whnf)
 . have hjl:j<ns.length:=by simpa using h2
   obtain⟨x,hx⟩:∃x,ns[j]? =some x:=⟨_,List.getElem?_eq_getElem hjl⟩
   have hnext:=vY (z:=b) hx;refine⟨Int.natCast_nonneg j,ao x,az hx,?_⟩
   conv=>whnf
   cases hd:(ns.take j).contains b with
   | true =>
    rw[hd,Bool.true_or]at hnext
    conv=>whnf
    exact⟨j+1,hjl,by(show ns.length-(j+1)<ns.length-j;omega),ah.keep ⟨⟨rfl,rfl⟩,⟨rfl,rfl⟩,⟨rfl,rfl⟩,⟨rfl,rfl⟩,⟨rfl,rfl⟩,⟨rfl,rfl⟩,⟨rfl,rfl⟩,⟨rfl,rfl⟩,⟨rfl,rfl⟩,⟨rfl,rfl⟩,⟨rfl,rfl⟩,⟨rfl,rfl⟩,⟨rfl,rfl⟩,⟨rfl,rfl⟩,⟨by rw[hnext];rfl,rfl⟩,⟨rfl,rfl⟩,⟨rfl,rfl⟩,⟨aj (by omega),rfl⟩,trivial⟩ ⟨⟨rfl,rfl⟩,⟨rfl,rfl⟩,trivial⟩⟩
   | false =>
    rw[hd,Bool.false_or]at hnext
    conv=>whnf
    split
    case h_2 hb=>exact absurd (hb.symm.trans er) (by simp)
    case h_1 hb2 =>
    cases hb2.symm.trans er
    conv=>whnf
    refine⟨Int.natCast_nonneg _,ao b,(by rw[Int.toNat_natCast,List.getElem?_map,List.length_map,hb];rfl),?_⟩
    conv=>whnf
    exact⟨j+1,hjl,by(show ns.length-(j+1)<ns.length-j;omega),ah.keep ⟨⟨rfl,rfl⟩,⟨rfl,rfl⟩,⟨rfl,rfl⟩,⟨rfl,rfl⟩,⟨rfl,rfl⟩,⟨rfl,rfl⟩,⟨rfl,rfl⟩,⟨rfl,rfl⟩,⟨rfl,rfl⟩,⟨rfl,rfl⟩,⟨rfl,rfl⟩,⟨rfl,rfl⟩,⟨rfl,rfl⟩,⟨rfl,rfl⟩,⟨by rw[hnext];rfl,rfl⟩,⟨rfl,rfl⟩,⟨rfl,rfl⟩,⟨aj (by omega),rfl⟩,trivial⟩ ⟨⟨rfl,rfl⟩,⟨rfl,rfl⟩,trivial⟩⟩
 . obtain rfl:j=ns.length:=by simp at h2;omega
   rw[List.take_length,hbc]
   conv=>whnf
   have hgt:decide (((m.map ao).length:Int)>((l.map ao).length:Int))=false:=decide_eq_false (by rw[List.length_map,List.length_map];omega);rw[show decide (((m.map ao).length:Int)>((l.map ao).length:Int))=false from hgt]
   conv=>whnf
   rw[lA,hnew]
   conv=>whnf
   have fin:ah cx ⟨[(1, .d (.str a)),(2, .ptr 2 0),(5, .d (.bool true)),(6, .d (.slice 1 (l.map ao))),(14, .omap 74),(75, .d (.slice 1 (l.map ao))),(76, .d (.int .i64 ((l.map ao).length:Int))),(77, .d (.int .i64 (k+1:Nat)))],[(2, .box ((bp w).map .d)),(74, .smap (bM z (.bool true) (jo (l.take k))))]⟩
    ⟨[(1, .d (.str a)),(2, .ptr 2 0),(5, .d (.bool true)),(6, .d (.slice 1 (l.map ao))),(14, .omap 74),(75, .d (.slice 1 (l.map ao))),(76, .d (.int .i64 ((l.map ao).length:Int))),(77, .d (.int .i64 (k+1:Nat)))],[(2, .box ((bp w).map .d)),(74, .smap (jo (l.take (k+1))))]⟩:=by
    rw[aS hz,sZ hnew];exact ah.refl _
   refine ae (fun h3=>?_) (fun h3=>?_) <;> (rw[h3];conv=>whnf)
   . have hk0 : k = 0 := by have : (k : Int) = 0 := by simpa using h3
                            omega
     subst hk0;rw[hz]at hhead;have hza:z=a:=by simpa using hhead
     rw[show(z==a)=true by rw[hza];simp]
     conv=>whnf
     (refine⟨0+1,hlt,by(show l.length-(0+1)<l.length-0;omega),ah.trans ?_ fin⟩;exact(ah.keep ⟨⟨rfl,rfl⟩,⟨rfl,rfl⟩,⟨rfl,rfl⟩,⟨rfl,rfl⟩,⟨rfl,rfl⟩,⟨rfl,rfl⟩,⟨rfl,rfl⟩,⟨aj (by omega),rfl⟩,trivial⟩ ⟨⟨rfl,rfl⟩,⟨rfl,rfl⟩,trivial⟩))
   . (refine⟨k+1,hlt,by(show l.length-(k+1)<l.length-k;omega),ah.trans ?_ fin⟩;exact(ah.keep ⟨⟨rfl,rfl⟩,⟨rfl,rfl⟩,⟨rfl,rfl⟩,⟨rfl,rfl⟩,⟨rfl,rfl⟩,⟨rfl,rfl⟩,⟨rfl,rfl⟩,⟨aj (by omega),rfl⟩,trivial⟩ ⟨⟨rfl,rfl⟩,⟨rfl,rfl⟩,trivial⟩))
set_option maxHeartbeats 2000000 in
theorem MZ(w:aQ)(a:Bs):NQ.Fn cx 7 [.agg (bp w), .str a] (.d (.bool true)) []:=by
 have fU:=u3 w;cases hu:(ni w&&aX w)with
 | false =>
  rw[hu]at fU;refine av aH mixed Tryz.func7 (by kernel_rfl) rfl (Nat.le_of_ble_eq_true rfl) ?_;conv=>whnf
  (refine⟨_,_,mF,?_⟩;conv=>whnf)
  (refine⟨_,_,fU,?_⟩;conv=>whnf)
  exact af rfl rfl
 | true =>
 rw[hu]at fU;obtain⟨hF,hv,hzl,_⟩:=Ci hu;have hg:=qI hF hv;have fL:=sJ w a hF;have fN:=oN w a hF;by_cases h0:cH w a=0
 case neg =>
  rw[show jG w a=([],cH w a) by unfold jG;rw[if_neg h0]]at fN;rw[show jE w a=([],false,cH w a) by unfold jE;rw[if_neg h0]]at fL;have he:(cH w a != cH w a)=false:=by simp
  generalize cH w a=x at *
  refine av aH mixed Tryz.func7 (by kernel_rfl) rfl (Nat.le_of_ble_eq_true rfl) ?_;conv=>whnf
  (refine⟨_,_,mF,?_⟩;conv=>whnf)
  (refine⟨_,_,fU,?_⟩;conv=>whnf)
  (refine⟨_,_,fL,?_⟩;conv=>whnf)
  (refine⟨_,_,fN,?_⟩;conv=>whnf)
  rw[he]
  conv=>whnf
  refine⟨Unit,fun _=>⟨[(5, .d (.bool true)),(6, .d (.slice 1 [])),(11, .d (.bool false)),(54, .d (.int .i64 0)),(55, .d (.int .i64 0))],[]⟩,fun _=>True,fun _=>0,⟨(),trivial,ah.keep ⟨⟨rfl,rfl⟩,⟨rfl,rfl⟩,⟨rfl,rfl⟩,⟨rfl,rfl⟩,⟨rfl,rfl⟩,trivial⟩ trivial⟩,fun _ _=>?_⟩
  conv=>whnf
  refine⟨Unit,fun _=>⟨[(5, .d (.bool true)),(76, .d (.int .i64 0)),(77, .d (.int .i64 0))],[]⟩,fun _=>True,fun _=>0,⟨(),trivial,ah.keep ⟨⟨rfl,rfl⟩,⟨rfl,rfl⟩,⟨rfl,rfl⟩,trivial⟩ trivial⟩,fun _ _=>?_⟩
  conv=>whnf
  exact af rfl rfl
 obtain⟨_,hav,hck⟩:=lh h0;have hak:a∈ar w.zones:=ck.2 hck;rw[show jG w a=(aK w.zones a,0) by unfold jG;rw[if_pos h0]]at fN;rw[show jE w a=(bN w.zones a,decide (0<(bN w.zones a).length),0) by unfold jE;rw[if_pos h0]]at fL;have hend:=H6 w a hF hv hzl hak;have hnl:=yX hg hav;have hself:(aK w.zones a).contains a=true->bN w.zones a=[a]:=fun h=>Bx hg hav (List.contains_iff_mem.1 h)
 have hdec:(decide (0<(bN w.zones a).length)==decide ((((bN w.zones a).map ao).length:Int)>0))=true:=by
  rw[List.length_map];by_cases h:0<(bN w.zones a).length
  . rw[decide_eq_true h,decide_eq_true (by omega)];rfl
  . rw[decide_eq_false h,decide_eq_false (by omega)];rfl
 dsimp only at fN fL;generalize aK w.zones a=ns at *
 refine cw Ng aH mixed Tryz.func7 (by kernel_rfl) rfl (Nat.le_of_ble_eq_true rfl) ?_
 conv=>whnf
 (refine⟨_,_,mF,?_⟩;conv=>whnf)
 (refine⟨_,_,fU,?_⟩;conv=>whnf)
 (refine⟨_,_,fL,?_⟩;conv=>whnf)
 (refine⟨_,_,fN,?_⟩;conv=>whnf)
 rw[show(decide (0<(bN w.zones a).length)==decide ((((bN w.zones a).map ao).length:Int)>0))=true from hdec]
 conv=>whnf
 refine⟨Nat,fun k=>⟨[(1, .d (.str a)),(2, .ptr 2 0),(5, .d (.bool true)),(6, .d (.slice 1 ((bN w.zones a).map ao))),(11, .d (.bool ((ns.take k).contains a))),(53, .d (.slice 1 (ns.map ao))),(54, .d (.int .i64 ((ns.map ao).length:Int))),(55, .d (.int .i64 k))],[(2, .box ((bp w).map .d))]⟩,
  fun k=>k<=ns.length,fun k=>ns.length-k,⟨0,Nat.zero_le _,ah.keep ⟨⟨rfl,rfl⟩,⟨rfl,rfl⟩,⟨rfl,rfl⟩,⟨rfl,rfl⟩,⟨rfl,rfl⟩,⟨rfl,rfl⟩,⟨rfl,rfl⟩,⟨rfl,rfl⟩,trivial⟩ ⟨⟨rfl,rfl⟩,trivial⟩⟩,fun k hk=>?_⟩
 dsimp only at hk ⊢
 conv=>whnf
 refine ae (fun h2=>?_) (fun h2=>?_) <;> (rw[h2];conv=>whnf)
 . have hjl:k<ns.length:=by simpa using h2
   obtain⟨x,hx⟩:∃x,ns[k]? =some x:=⟨_,List.getElem?_eq_getElem hjl⟩
   have hnext:=vY (z:=a) hx;refine⟨Int.natCast_nonneg k,ao x,az hx,?_⟩
   conv=>whnf
   cases hd:(ns.take k).contains a with
   | true =>
    rw[hd,Bool.true_or]at hnext
    conv=>whnf
    exact⟨k+1,hjl,by(show ns.length-(k+1)<ns.length-k;omega),ah.keep ⟨⟨rfl,rfl⟩,⟨rfl,rfl⟩,⟨rfl,rfl⟩,⟨rfl,rfl⟩,⟨by rw[hnext];rfl,rfl⟩,⟨rfl,rfl⟩,⟨rfl,rfl⟩,⟨aj (by omega),rfl⟩,trivial⟩ ⟨⟨rfl,rfl⟩,trivial⟩⟩
   | false =>
    rw[hd,Bool.false_or]at hnext
    conv=>whnf
    exact⟨k+1,hjl,by(show ns.length-(k+1)<ns.length-k;omega),ah.keep ⟨⟨rfl,rfl⟩,⟨rfl,rfl⟩,⟨rfl,rfl⟩,⟨rfl,rfl⟩,⟨by rw[hnext];rfl,rfl⟩,⟨rfl,rfl⟩,⟨rfl,rfl⟩,⟨aj (by omega),rfl⟩,trivial⟩ ⟨⟨rfl,rfl⟩,trivial⟩⟩
 . obtain rfl:k=ns.length:=by simp at h2;omega
   rw[List.take_length];cases hc:ns.contains a with
   | true =>
    have hla:=hself hc;have fS:=oT [a] [a] (by simp) (by simp);rw[Gl.2 rfl]at fS;rw[hla]at hend ⊢
    conv=>whnf
    (refine⟨_,fS,rfl,?_⟩;conv=>whnf)
    exact hend _ (ah.keep ⟨⟨rfl,rfl⟩,⟨rfl,rfl⟩,⟨rfl,rfl⟩,⟨rfl,rfl⟩,⟨rfl,rfl⟩,trivial⟩ ⟨⟨rfl,rfl⟩,⟨rfl,rfl⟩,trivial⟩)
   | false =>
    conv=>whnf
    exact hend _ (ah.keep ⟨⟨rfl,rfl⟩,⟨rfl,rfl⟩,⟨rfl,rfl⟩,⟨rfl,rfl⟩,⟨rfl,rfl⟩,trivial⟩ ⟨⟨rfl,rfl⟩,⟨rfl,rfl⟩,trivial⟩)
end Go.Proofs.YtcecidfnchcagaaGreatDoor
