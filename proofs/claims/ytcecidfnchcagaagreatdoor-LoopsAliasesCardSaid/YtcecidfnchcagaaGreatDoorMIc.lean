/-
  Texts of the proof, merged in build order.
-/
import Derived.Test.YtcecidfnchcagaaGreatDoorAbM
import Derived.Test.YtcecidfnchcagaaGreatDoorIbM
import Derived.Test.YtcecidfnchcagaaGreatDoorMIp
import Derived.Test.YtcecidfnchcagaaGreatDoorMQt
import Derived.Test.YtcecidfnchcagaaGreatDoorMGk
import Derived.Test.YtcecidfnchcagaaGreatDoorMVa
set_option linter.all false
set_option maxRecDepth 100000
namespace NP
open NQ Go
def xh(zs:List ai)(i:Nat):D:=match zs[i]? with | some p=> .agg [.int .i64 (dA p.zone).1, .int .i64 p.host] | none=> .agg [.int .i64 0, .int .i64 0]
def mV(zs:List ai)(i:Nat):D:=match zs[i]? with | some p=> .agg (bo p.zone) | none=> .agg (bo ⟨[],[]⟩)
theorem BX{zs:List ai}{i:Nat}{p:ai}(h:zs[i]? =some p):xh zs i= .agg [.int .i64 (dA p.zone).1, .int .i64 p.host]:=by unfold xh;rw[h]
theorem Cz{zs:List ai}{i:Nat}{p:ai}(h:zs[i]? =some p):mV zs i= .agg (bo p.zone):=by unfold mV;rw[h]
def CA(zs:List ai):List (List D×D):=(iD (mV zs) (cw zs)).map gi
def c7(zs:List ai):List D:=[.kmap (CA zs), .slice 1 ((aU zs).map aI)]
theorem nF(zs:List ai)(a:Bs):fT (.str a) (CA zs)=some ((ck zs a).map fun x=> .agg (bo x.2.zone)):=by
 unfold CA;rw[Ev,nA];cases h:ck zs a with
 | none=>rfl
 | some x=>simp[Cz (vr zs a x h)]
end NP
namespace Go.Proofs.YtcecidfnchcagaaGreatDoor
open NQ Go NP Go.RowKit
set_option maxHeartbeats 1000000 in
theorem BJ(w:bS)(hz:∀p∈w.zones,aj p.zone.apex=true)(hl:w.zones.length<=100000):NQ.Fn cx 78 [.agg (cH w)] (.agg ((c7 w.zones).map .d)) []:=by
 refine cV (fun | 12=>[12] | _=>[]) bf mixed Tryz.func78 (by kernel_rfl) rfl (ag rfl) ?_;have hvk:∀p∈iD (mV w.zones) (cw w.zones),aj p.1=true:=fun p hp=>by
  obtain⟨y,hy,rfl⟩:=List.mem_map.1 hp;obtain⟨q,hq,ha⟩:=yW.1 (show y.1∈dK (cw w.zones)from List.mem_map.2 ⟨y,hy,rfl⟩);show aj y.1=true
  rw[<- ha];exact hz q hq
 conv=>whnf
 refine ⟨Nat × List (Bs × Nat), fun x => ⟨[(2, .ptr 2 0), (3, .omap 11), (4, .ptr 4 0), (15, .d (.slice 3 (w.zones.map bZ))), (16, .d (.int .i64 ((w.zones.map bZ).length : Int))), (17, .d (.int .i64 x.1))],
     [(2, .box [.d .nmap, .nil 1]),(11, .smap (iD (xh w.zones) x.2)),(4, .box [.omap 12, .nil 1]),(12, .smap (iD (mV w.zones) x.2))]⟩,
  fun x=>x.1<=w.zones.length/\gq w.zones x.2/\fW w.zones x.1 (w.zones.drop x.1) x.2=cw w.zones,fun x=>w.zones.length-x.1,
  ⟨(0,[]),⟨Nat.zero_le _,(fun a j h=>by cases h),rfl⟩,an.keep ⟨⟨rfl,rfl⟩,⟨rfl,rfl⟩,⟨rfl,rfl⟩,⟨rfl,rfl⟩,⟨rfl,rfl⟩,⟨rfl,rfl⟩,trivial⟩ ⟨⟨rfl,rfl⟩,⟨rfl,rfl⟩,⟨rfl,rfl⟩,⟨rfl,rfl⟩,trivial⟩⟩,fun⟨k,m⟩ ⟨hk,hok,hinv⟩=>?_⟩
 dsimp only at hk hok hinv ⊢
 conv=>whnf
 refine ae (fun h1=>?_) (fun h1=>?_) <;> (rw[h1];conv=>whnf)
 . have hlt:k<w.zones.length:=by simpa using h1
   obtain⟨x,hx⟩:∃x,w.zones[k]? =some x:=⟨_,ah hlt⟩
   rw[zx hx]at hinv;have again:∀m',(m' =if dG w.zones m x=true then dX x.zone.apex k m else m)->(k+1<=w.zones.length/\gq w.zones m' /\fW w.zones (k+1) (w.zones.drop (k+1)) m' =cw w.zones):=fun m' e=>by
    refine⟨hlt,?_,by rw[e];exact hinv⟩;rw[e];split
    . exact hok.put hx
    . exact hok
   have Ku:cG x.zone.apex (.agg [.int .i64 (dA x.zone).1, .int .i64 x.host]) (iD (xh w.zones) m)=iD (xh w.zones) (dX x.zone.apex k m):=by rw[<- BX hx,yu]
   have rf:cG x.zone.apex (.agg (bo x.zone)) (iD (mV w.zones) m)=iD (mV w.zones) (dX x.zone.apex k m):=by rw[<- Cz hx,yu]
   refine⟨aJ k,bZ x,aT hx,?_⟩
   conv=>whnf
   (refine⟨_,_,s9 x.zone,?_⟩;conv=>whnf)
   rw[Cj];cases hf:de x.zone.apex m with
   | none =>
    have ht:dG w.zones m x=true:=by unfold dG;rw[hf]
    conv=>whnf
    refine⟨(k+1,dX x.zone.apex k m),again _ (by rw[if_pos ht]),by(show w.zones.length-(k+1)<w.zones.length-k;omega),an.keep ⟨⟨rfl,rfl⟩,⟨rfl,rfl⟩,⟨rfl,rfl⟩,⟨rfl,rfl⟩,⟨rfl,rfl⟩,⟨ar (by omega),rfl⟩,trivial⟩ ⟨⟨rfl,rfl⟩,⟨congrArg (fun m=>some (Blk.smap m)) Ku,rfl⟩,⟨rfl,rfl⟩,⟨congrArg (fun m=>some (Blk.smap m)) rf,rfl⟩,trivial⟩⟩
   | some j =>
    obtain⟨p,hp,hpa⟩:=hok _ j hf;have ht:dG w.zones m x=dg x p:=by unfold dG;rw[hf];dsimp only;rw[hp]
    simp only[Option.map_some,BX hp]
    conv=>whnf
    have yes:dg x p=true->_:=fun h=>again (dX x.zone.apex k m) (by rw[if_pos (ht.trans h)])
    have no:dg x p=false->_:=fun h=>again m (by rw[if_neg (by rw[ht.trans h];simp)])
    repeat' (first
     | (refine ae (fun h=>?_) (fun h=>?_) <;> (rw[h];conv=>whnf))
     | fail)
    all_goals first
     | (refine⟨(k+1,dX x.zone.apex k m),yes (by unfold dg;simp_all;done),by(show w.zones.length-(k+1)<w.zones.length-k;omega),an.keep ⟨⟨rfl,rfl⟩,⟨rfl,rfl⟩,⟨rfl,rfl⟩,⟨rfl,rfl⟩,⟨rfl,rfl⟩,⟨ar (by omega),rfl⟩,trivial⟩ ⟨⟨rfl,rfl⟩,⟨congrArg (fun m=>some (Blk.smap m)) Ku,rfl⟩,⟨rfl,rfl⟩,⟨congrArg (fun m=>some (Blk.smap m)) rf,rfl⟩,trivial⟩⟩;done)
     | (refine⟨(k+1,m),no (by unfold dg;simp_all;done),by(show w.zones.length-(k+1)<w.zones.length-k;omega),an.keep ⟨⟨rfl,rfl⟩,⟨rfl,rfl⟩,⟨rfl,rfl⟩,⟨rfl,rfl⟩,⟨rfl,rfl⟩,⟨ar (by omega),rfl⟩,trivial⟩ ⟨⟨rfl,rfl⟩,⟨rfl,rfl⟩,⟨rfl,rfl⟩,⟨rfl,rfl⟩,trivial⟩⟩;done)
 . obtain rfl:k=w.zones.length:=by simp at h1;omega
   rw[List.drop_length]at hinv;obtain rfl:m=cw w.zones:=hinv
   (refine⟨_,_,L3 (iD (mV w.zones) (cw w.zones)),?_⟩;conv=>whnf)
   have hkeys:(iD (mV w.zones) (cw w.zones)).map (·.1)=dK (cw w.zones):=by unfold iD dK;rw[List.map_map];rfl
   (refine⟨_,_,zU (iD (mV w.zones) (cw w.zones)) (by rw[hkeys];exact tu _) hvk (by unfold iD;rw[ak];have:=xy w.zones;omega),?_⟩;conv=>whnf)
   rw[hkeys];exact af rfl rfl
end Go.Proofs.YtcecidfnchcagaaGreatDoor
namespace NP
open NQ Go
theorem Jb:(back [46]).length=0:=by decide
theorem zF(l:List (Bs×Ans))(x:List D)(h:x∈l.map Cw):x.length=2:=by
 obtain⟨p,_,rfl⟩:=List.mem_map.1 h;rfl
theorem zj(zs:List ai)(q:aW):cq zs q=match (jC zs q).find? (fun p=>p.2.kind != 4)with | some p=>(p.2,true) | none=>(gr,false):=Ey zs q _ _
end NP
namespace Go.Proofs.YtcecidfnchcagaaGreatDoor
open NQ Go NP Go.RowKit
theorem Cu(zs:List ai)(q:aW)(hg:dq zs)(hq:bB q=true):Al cx 219 [.ptr (c7 zs), .ptr (cm q)] ((jC zs q).map Cw):=by
 refine CZ (fun | 4=>[77777] | _=>[]) bf mixed Tryz.func219 (by kernel_rfl) rfl rfl (ag rfl) ?_
 conv=>whnf
 refine⟨rfl,?_⟩
 conv=>whnf
 refine⟨Nat×Nat×Bs,fun x=>((x.1,true),⟨[(1, .d (.ptr (c7 zs))),(2, .d (.ptr (cm q))),(4, .d (.str x.2.2))],[]⟩),
  fun x=>x.1<=(jC zs q).length/\kE zs q x.2.1 x.2.2=(jC zs q).drop x.1/\aL q.name x.2.2=true/\(back q.name).length+2<=x.2.1+(back x.2.2).length,fun x=>x.2.1,
  ⟨(0,(back q.name).length+2,[46]),⟨Nat.zero_le _,rfl,ij _,by rw[Jb];exact Nat.le_refl _⟩,rfl,an.keep ⟨⟨rfl,rfl⟩,⟨rfl,rfl⟩,⟨rfl,rfl⟩,trivial⟩ trivial⟩,fun⟨k,f,a⟩ ⟨hk,hw,hu,hf⟩=>?_⟩
 dsimp only at hk hw hu hf ⊢
 conv=>whnf
 refine⟨rfl,?_⟩
 conv=>whnf
 refine⟨_,nF zs a,?_⟩;cases hc:ck zs a with
 | none =>
  rw[mF hc]at hw;have hk' :k=(jC zs q).length:=by
   have:=congrArg List.length hw;simp at this;omega
  repeat' (first | (refine⟨rfl,?_⟩;conv=>whnf) | fail)
  refine⟨trivial,fun _=>?_⟩;rw[hk',ak]
 | some x =>
  obtain⟨f,rfl⟩:∃g,f=g+1:=⟨f-1,by
   have:=((ee _ _).1 hu).length_le;omega⟩
  rw[mG hc]at hw;have u:=uk hg hq hu hc;have hget:(jC zs q)[k]? =some (a,(bF x.2.zone q).1):=by
   have:=congrArg (fun l:List (Bs×Ans)=>l[0]?) hw;simp only[List.getElem?_cons_zero,List.getElem?_drop,Nat.add_zero]at this;exact this.symm
  have hkl:=(aq.1 hget).1;have hrest:(if ((bF x.2.zone q).1.kind != 4)=true then[]else kE zs q f (bF x.2.zone q).1.cut)=(jC zs q).drop (k+1):=by
   have:=congrArg List.tail hw;rw[List.tail_cons,List.tail_drop]at this;exact this
  repeat' (first | (refine⟨rfl,?_⟩;conv=>whnf) | (refine⟨_,_,qB x.2.zone q (by have:=(dx u.few).1;omega),?_⟩;conv=>whnf) | fail)
  refine⟨Cw (a,(bF x.2.zone q).1),by rw[aR,hget];rfl,rfl,fun b=>?_⟩
  conv=>whnf
  cases b with
  | true =>
   repeat' (first | (refine⟨rfl,?_⟩;conv=>whnf) | (refine ae (fun h=>?_) (fun h=>?_) <;> (rw[h];conv=>whnf)) | fail)
   . refine⟨trivial,fun _=>?_⟩;rw[if_pos h]at hrest;have:=congrArg List.length hrest;simp at this;rw[ak];show k+1=_;omega
   . rw[if_neg (by rw[show((bF x.2.zone q).1.kind != 4)=false from h];simp)]at hrest;obtain⟨d1,d2,_⟩:=gy u h;rw[(pU hc).2]at d2;exact⟨(k+1,f,(bF x.2.zone q).1.cut),⟨hkl,hrest,d1,by dsimp only;omega⟩,by(show f<f+1;omega),rfl,an.keep ⟨⟨rfl,rfl⟩,⟨rfl,rfl⟩,⟨rfl,rfl⟩,trivial⟩ trivial⟩
  | false =>
   repeat' (first | (refine⟨rfl,?_⟩;conv=>whnf) | fail)
   exact⟨trivial,fun h=>by cases h⟩
theorem IS(zs:List ai)(q:aW):NQ.Fn cx 159 [.agg (c7 zs), .agg (cm q)] (.d (.fn 219 [] [.ptr (c7 zs), .ptr (cm q)])) []:=by
 refine aM bf mixed Tryz.func159 (by kernel_rfl) rfl (ag rfl) ?_;conv=>whnf
 exact af rfl rfl
end Go.Proofs.YtcecidfnchcagaaGreatDoor
namespace NQ
theorem qe{fx:List Nat}{h:List (Nat×Blk)}(e:fx.all (fun s=>(find h s).isSome)=true):∀s∈fx,live h s:=fun s hs=>ay.1 e s hs
theorem GJ{fx:List Nat}{h:List (Nat×Blk)}(e:fx.all (fun s=>Nat.ble 100000 s&&(match find h s with | some b=>xf b | none=>false))=true):∀s∈fx,100000<=s/\ ∃b,find h s=some b/\xf b=true:=fun s hs=>by
 have:=ay.1 e s hs;rw[aN]at this;refine⟨ag this.1,?_⟩;have h2:=this.2;split at h2
 . rename_i b e;exact⟨b,e,h2⟩
 . cases h2
end NQ
namespace NP
open NQ Go
theorem Cv{zs:List ai}{q:aW}:∀(f:Nat) (a:Bs) (p:Bs×Ans),p∈kE zs q f a->(p.2.kind != 4)=true->(kE zs q f a).find? (fun p=>p.2.kind != 4)=some p
 | 0,a,p,hp,_=>by cases hp
 | f+1,a,p,hp,hk=>by
  cases h:ck zs a with
  | none=>rw[mF h]at hp;cases hp
  | some x =>
   rw[mG h]at hp ⊢;cases hx:((bF x.2.zone q).1.kind != 4)with
   | true =>
    rw[hx,if_pos rfl]at hp;rw[List.find?_cons_of_pos (p:=fun p:Bs×Ans=>p.2.kind != 4) hx,List.mem_singleton.1 hp]
   | false =>
    rw[hx,if_neg (by simp)]at hp;rw[List.find?_cons_of_neg (p:=fun p:Bs×Ans=>p.2.kind != 4) (by simp[hx]),if_neg (by simp)];rcases List.mem_cons.1 hp with rfl | hp
    . rw[hx]at hk;cases hk
    . exact Cv f _ p hp hk
theorem Ct{zs:List ai}{q:aW}(hg:dq zs)(hq:bB q=true):∀(f:Nat) (a:Bs),aL q.name a=true-> ∀p∈kE zs q f a,(p.2.kind != 4)=false->(back a).length<(back p.2.cut).length
 | 0,a,_,p,hp,_=>by cases hp
 | f+1,a,hu,p,hp,hk=>by
  cases h:ck zs a with
  | none=>rw[mF h]at hp;cases hp
  | some x =>
   rw[mG h]at hp;have u:=uk hg hq hu h;rcases List.mem_cons.1 hp with rfl | hp
   . obtain⟨_,d2,_⟩:=gy u hk;rw[(pU h).2]at d2;exact d2
   . cases hx:((bF x.2.zone q).1.kind != 4)with
     | true=>rw[hx,if_pos rfl]at hp;cases hp
     | false =>
      rw[hx,if_neg (by simp)]at hp;obtain⟨d1,d2,_⟩:=gy u hx;rw[(pU h).2]at d2;have:=Ct hg hq f _ d1 p hp hk;omega
theorem Ez{zs:List ai}{q:aW}(hg:dq zs)(hq:bB q=true){c:Bs}:∀(f:Nat) (a:Bs),aL q.name a=true-> ∀p∈kE zs q f a,jE c p=true->(kE zs q f a).find? (jE c)=some p
 | 0,a,_,p,hp,_=>by cases hp
 | f+1,a,hu,p,hp,hk=>by
  cases h:ck zs a with
  | none=>rw[mF h]at hp;cases hp
  | some x =>
   rw[mG h]at hp ⊢;have u:=uk hg hq hu h;cases hx:((bF x.2.zone q).1.kind != 4)with
   | true =>
    rw[hx,if_pos rfl]at hp;rw[List.mem_singleton.1 hp]at hk ⊢;rw[List.find?_cons_of_pos hk]
   | false =>
    rw[hx,if_neg (by simp)]at hp;rw[if_neg (by simp)];obtain⟨d1,d2,_⟩:=gy u hx;rcases List.mem_cons.1 hp with rfl | hp
    . rw[List.find?_cons_of_pos hk]
    . have hk' :=hk;unfold jE at hk';simp only[aN,beq_iff_eq]at hk';have:=Ct hg hq f _ d1 p hp (by rw[hk'.1];rfl);rw[List.find?_cons_of_neg,Ez hg hq f _ d1 p hp hk];intro hc;unfold jE at hc;simp only[aN,beq_iff_eq]at hc;rw[hk'.2,hc.2]at this;omega
def pV:Option (Bs×Ans)->Bs×Ans×Bool
 | some p=>(p.1,p.2,true)
 | none=>([],gr,false)
end NP
namespace Go.Proofs.YtcecidfnchcagaaGreatDoor
open NQ Go NP Go.RowKit
theorem E9(zs:List ai)(q:aW)(hg:dq zs)(hq:bB q=true):NQ.Fn cx 93 [.agg (c7 zs), .agg (cm q)] (.tuple [.agg ((dv (cq zs q).1).map .d), .d (.bool (cq zs q).2)]) []:=by
 refine sw (fun _=>[]) bf mixed Tryz.func93 (by kernel_rfl) rfl (ag rfl) ?_
 conv=>whnf
 (refine⟨_,_,IS zs q,?_⟩;conv=>whnf)
 refine⟨219,_,_,[(4, .ptr 100004 0),(5, .ptr 100005 0),(10, .d (.fn 219 [] [.ptr (c7 zs), .ptr (cm q)]))],
  fun _=>[(100004, .box [.d (.int .i64 0), .nil 5, .d (.str [])]),(100005, .box [.d (.bool false)])],[100004,100005],
  fun k=> ∀j p,j<k->(jC zs q)[j]? =some p->(p.2.kind != 4)=false,
  (kT.ren [4,5] (by kernel_rfl)).trans (an.zero (an.keep ⟨⟨(by kernel_rfl),(by kernel_rfl)⟩,⟨(by kernel_rfl),(by kernel_rfl)⟩,⟨(by kernel_rfl),(by kernel_rfl)⟩,trivial⟩ ⟨⟨(by kernel_rfl),(by kernel_rfl)⟩,⟨(by kernel_rfl),(by kernel_rfl)⟩,trivial⟩)),
  ⟨rfl,Cu zs q hg hq,zF _,rfl,rfl⟩,⟨ag rfl,GJ (by kernel_rfl),rfl,by kernel_rfl⟩,fun j p h=>by omega,fun k x hx hN=>?_,fun hN=>?_⟩
 . rw[aR]at hx;cases hp:(jC zs q)[k]? with
   | none=>rw[hp]at hx;cases hx
   | some p =>
    rw[hp]at hx;cases hx
    conv=>whnf
    refine ae (fun h1=>?_) (fun h1=>?_) <;> (rw[h1];conv=>whnf)
    . refine⟨[(100004, .box ((dv p.2).map .d)),(100005, .box [.d (.bool true)])],an.keep trivial ⟨⟨(by kernel_rfl),(by kernel_rfl)⟩,⟨(by kernel_rfl),(by kernel_rfl)⟩,trivial⟩,qe (by kernel_rfl),af rfl ?_⟩;have e:cq zs q=(p.2,true):=by
       rw[zj];have:=Cv _ _ p (ao hp) h1;unfold jC;rw[this]
      rw[e];rfl
    . refine⟨⟨an.keep trivial ⟨⟨(by kernel_rfl),(by kernel_rfl)⟩,⟨(by kernel_rfl),(by kernel_rfl)⟩,trivial⟩,qe (by kernel_rfl)⟩,fun j r hj hr=>?_⟩;rcases Nat.lt_succ_iff_lt_or_eq.1 hj with hj | rfl
      . exact hN j r hj hr
      . rw[hp]at hr;cases hr;exact h1
 . conv=>whnf
   refine af rfl ?_;have e:cq zs q=(gr,false):=by
    rw[zj];have:(jC zs q).find? (fun p=>p.2.kind != 4)=none:=List.find?_eq_none.2 fun p hp=>by
     obtain⟨j,hj⟩:=bV hp;rw[hN j p (by rw[ak];exact(aq.1 hj).1) hj];simp
    rw[this]
   rw[e];rfl
set_option maxHeartbeats 1000000 in
theorem yM(zs:List ai)(a:Bs)(hg:dq zs)(ha:aj a=true) :
 NQ.Fn cx 144 [.agg (c7 zs), .str a] (.tuple [.d (.str (pV (dB zs a)).1), .agg ((dv (pV (dB zs a)).2.1).map .d), .d (.bool (pV (dB zs a)).2.2)]) []:=by
 refine sw (fun | 7=>[55555,66666] | _=>[]) bf mixed Tryz.func144 (by kernel_rfl) rfl (ag rfl) ?_
 conv=>whnf
 refine ae (fun h0=>?_) (fun h0=>?_) <;> (rw[h0];conv=>whnf)
 . have e:dB zs a=none:=by unfold dB;rw[if_pos (by simpa using h0)]
   rw[e];exact af rfl rfl
 have hne:a ≠ [46]:=by simpa using h0
 have hd:dB zs a=(jC zs ⟨a,2⟩).find? (jE a):=by unfold dB;rw[if_neg hne]
 have hq:bB ⟨a,2⟩=true:=Ie ha
 (refine⟨_,_,IS zs ⟨a,2⟩,?_⟩;conv=>whnf)
 refine⟨219,_,_,[(3, .ptr 100003 0),(4, .ptr 100004 0),(5, .ptr 100005 0),(6, .ptr 100006 0),(15, .d (.fn 219 [] [.ptr (c7 zs), .ptr (cm ⟨a,2⟩)]))],
  fun _=>[(100003, .box [.d (.str a)]),(100004, .box [.d (.str [])]),(100005, .box [.d (.int .i64 0), .nil 5, .d (.str [])]),(100006, .box [.d (.bool false)])],[100003,100004,100005,100006],
  fun k=> ∀j p,j<k->(jC zs ⟨a,2⟩)[j]? =some p->jE a p=false,
  (kT.ren [3,4,5,6] (by kernel_rfl)).trans (an.zero (an.keep ⟨⟨(by kernel_rfl),(by kernel_rfl)⟩,⟨(by kernel_rfl),(by kernel_rfl)⟩,⟨(by kernel_rfl),(by kernel_rfl)⟩,⟨(by kernel_rfl),(by kernel_rfl)⟩,⟨(by kernel_rfl),(by kernel_rfl)⟩,trivial⟩ ⟨⟨(by kernel_rfl),(by kernel_rfl)⟩,⟨(by kernel_rfl),(by kernel_rfl)⟩,⟨(by kernel_rfl),(by kernel_rfl)⟩,⟨(by kernel_rfl),(by kernel_rfl)⟩,trivial⟩)),
  ⟨rfl,Cu zs _ hg hq,zF _,rfl,rfl⟩,⟨ag rfl,GJ (by kernel_rfl),rfl,by kernel_rfl⟩,fun j p h=>by omega,fun k x hx hN=>?_,fun hN=>?_⟩
 . rw[aR]at hx;cases hp:(jC zs ⟨a,2⟩)[k]? with
   | none=>rw[hp]at hx;cases hx
   | some p =>
    rw[hp]at hx;cases hx;have next:jE a p=false-> ∀j r,j<k+1->(jC zs ⟨a,2⟩)[j]? =some r->jE a r=false:=fun hc j r hj hr=>by
     rcases Nat.lt_succ_iff_lt_or_eq.1 hj with hj | rfl
     . exact hN j r hj hr
     . rw[hp]at hr;cases hr;exact hc
    have yes:jE a p=true->dB zs a=some p:=fun hc=>by
     rw[hd];unfold jC;exact Ez hg hq _ _ (ij _) p (ao hp) hc
    conv=>whnf
    refine ae (fun h1=>?_) (fun h1=>?_) <;> (rw[h1];conv=>whnf)
    case refine_2 =>
     exact⟨⟨an.keep trivial ⟨⟨(by kernel_rfl),(by kernel_rfl)⟩,⟨(by kernel_rfl),(by kernel_rfl)⟩,⟨(by kernel_rfl),(by kernel_rfl)⟩,⟨(by kernel_rfl),(by kernel_rfl)⟩,trivial⟩,qe (by kernel_rfl)⟩,next (by unfold jE;rw[show(p.2.kind==4)=false from h1];rfl)⟩
    refine ae (fun h2=>?_) (fun h2=>?_) <;> (rw[h2];conv=>whnf)
    case refine_2 =>
     exact⟨⟨an.keep trivial ⟨⟨(by kernel_rfl),(by kernel_rfl)⟩,⟨(by kernel_rfl),(by kernel_rfl)⟩,⟨(by kernel_rfl),(by kernel_rfl)⟩,⟨(by kernel_rfl),(by kernel_rfl)⟩,trivial⟩,qe (by kernel_rfl)⟩,next (by unfold jE;rw[show(p.2.cut==a)=false from h2];exact az _)⟩
    refine⟨⟨[(3, .ptr 100003 0),(4, .ptr 100004 0),(5, .ptr 100005 0),(6, .ptr 100006 0),(7, .d (.str p.1)),(8, .ptr 8 0)],[(100003, .box [.d (.str a)]),(100004, .box [.d (.str [])]),(100005, .box [.d (.int .i64 0), .nil 5, .d (.str [])]),(100006, .box [.d (.bool false)]),(8, .box ((dv p.2).map .d))]⟩,
     an.keep ⟨⟨(by kernel_rfl),(by kernel_rfl)⟩,⟨(by kernel_rfl),(by kernel_rfl)⟩,⟨(by kernel_rfl),(by kernel_rfl)⟩,⟨(by kernel_rfl),(by kernel_rfl)⟩,⟨(by kernel_rfl),(by kernel_rfl)⟩,⟨(by kernel_rfl),(by kernel_rfl)⟩,trivial⟩ ⟨⟨(by kernel_rfl),(by kernel_rfl)⟩,⟨(by kernel_rfl),(by kernel_rfl)⟩,⟨(by kernel_rfl),(by kernel_rfl)⟩,⟨(by kernel_rfl),(by kernel_rfl)⟩,⟨(by kernel_rfl),(by kernel_rfl)⟩,trivial⟩,?_⟩
    conv=>whnf
    (refine⟨(by kernel_rfl:iy _=true),?_⟩;conv=>whnf)
    have fin : ∀ st, an cx st ⟨[], [(100003, .box [.d (.str a)]), (100004, .box [.d (.str p.1)]), (100005, .box ((dv p.2).map .d)), (100006, .box [.d (.bool true)])]⟩ -> ∃ hx, an cx st ⟨[], hx⟩ /\ (∀ s ∈ [100003, 100004, 100005, 100006], live hx s) /\
        sZ cx Tryz.f144.results.toList (.tuple [.d (.str (pV (dB zs a)).1), .agg ((dv (pV (dB zs a)).2.1).map .d), .d (.bool (pV (dB zs a)).2.2)]) [] ⟨[(3, .ptr 100003 0),(4, .ptr 100004 0),(5, .ptr 100005 0),(6, .ptr 100006 0),(15, .d (.fn 219 [] [.ptr (c7 zs), .ptr (cm ⟨a,2⟩)]))],hx⟩:=fun st hst=>by
     refine⟨_,hst,qe (by kernel_rfl),af rfl ?_⟩;rw[yes (by unfold jE;rw[show(p.2.kind==4)=true from h1,show(p.2.cut==a)=true from h2];rfl)];rfl
    repeat' (first
     | (exact fin _ (an.keep trivial ⟨⟨(by kernel_rfl),(by kernel_rfl)⟩,⟨(by kernel_rfl),(by kernel_rfl)⟩,⟨(by kernel_rfl),(by kernel_rfl)⟩,⟨(by kernel_rfl),(by kernel_rfl)⟩,trivial⟩))
     | (refine⟨by kernel_rfl,?_⟩;conv=>whnf)
     | (refine⟨?_,?_⟩ <;> (conv=>whnf))
     | fail)
 . conv=>whnf
   refine af rfl ?_;have e:dB zs a=none:=by
    rw[hd];exact List.find?_eq_none.2 fun p hp=>by
     obtain⟨j,hj⟩:=bV hp;rw[hN j p (by rw[ak];exact(aq.1 hj).1) hj];simp
   rw[e];rfl
theorem A7(zs:List ai)(s:Bs)(hv:aj s=true):NQ.Fn cx 146 [.agg (c7 zs), .str s] (.tuple [.d (.str ((iL zs s).getD [])), .d (.bool (iL zs s).isSome)]) []:=by
 refine aM bf mixed Tryz.func146 (by kernel_rfl) rfl (ag rfl) ?_;conv=>whnf
 refine⟨Bs,fun n=>⟨[(1, .d (.str n)),(2, .ptr 2 0)],[(2, .box ((c7 zs).map .d))]⟩,
  fun n=>aj n=true/\qN zs ((bc n).length+1) n=iL zs s,fun n=>(bc n).length,
  ⟨s,⟨hv,rfl⟩,an.keep ⟨⟨rfl,rfl⟩,⟨rfl,rfl⟩,trivial⟩ ⟨⟨rfl,rfl⟩,trivial⟩⟩,fun n ⟨hvn,hn⟩=>?_⟩
 dsimp only at hvn hn ⊢
 conv=>whnf
 refine⟨_,nF zs n,?_⟩;unfold qN at hn;cases hc:ck zs n with
 | some x =>
  have hn:some n=iL zs s:=by rw[if_pos (by rw[hc];rfl)]at hn;exact hn
  conv=>whnf
  refine af rfl ?_;rw[<- hn];rfl
 | none =>
  have hn:(if n=[46]then none else qN zs (bc n).length (cn n))=iL zs s:=by rw[if_neg (by rw[hc];simp)]at hn;exact hn
  conv=>whnf
  (refine⟨_,_,rR n,?_⟩;conv=>whnf)
  by_cases h46:n=[46]
  . rw[if_pos h46]at hn;have hp:dR n=([],4):=by unfold dR;rw[if_pos hvn,if_pos h46]
    rw[hp]
    conv=>whnf
    refine af rfl ?_;rw[<- hn];rfl
  . rw[if_neg h46]at hn;have hp:dR n=(cn n,0):=by unfold dR;rw[if_pos hvn,if_neg h46]
    rw[hp]
    conv=>whnf
    obtain⟨_,_,h3⟩:=jW hvn (ij n) h46;exact⟨cn n,⟨eS hvn,by rw[h3];exact hn⟩,by(show(bc (cn n)).length<(bc n).length;omega),an.keep ⟨⟨rfl,rfl⟩,⟨rfl,rfl⟩,trivial⟩ ⟨⟨rfl,rfl⟩,trivial⟩⟩
end Go.Proofs.YtcecidfnchcagaaGreatDoor
namespace NP
open NQ Go
def jc(cut:Bs)(s:Signed):Bool:=(s.set.type==2)&&(s.set.name==cut)
def fR(cut:Bs)(l:List Signed):List Bs:=(l.filter (jc cut)).flatMap fun s=>s.set.data.map (·.text)
theorem uH(cut:Bs)(l:List Signed)(s:Signed):fR cut (l++[s])=fR cut l++(if jc cut s=true then s.set.data.map (·.text)else[]):=by
 unfold fR;rw[List.filter_append,List.flatMap_append];by_cases h:jc cut s=true
 . rw[if_pos h,List.filter_cons_of_pos h];simp
 . rw[if_neg h,List.filter_cons_of_neg h];simp
theorem wQ(cut:Bs):∀l:List Signed,(∀s∈l,s.set.data.length<=100)->(fR cut l).length<=100*l.length
 | [],_=>by simp[fR]
 | s::t,h=>by
  have ih:=wQ cut t fun x hx=>h x (aX _ hx)
  have hs:=h s (List.mem_cons_self ..);unfold fR at ih ⊢;by_cases e:jc cut s=true
  . rw[List.filter_cons_of_pos e,List.flatMap_cons];simp only[List.length_append,ak,List.length_cons];omega
  . rw[List.filter_cons_of_neg e];simp only[List.length_cons];omega
def ir(l:List Signed):List (Bs×D):=l.foldl (fun m s=>if (s.set.type==1)=true then cG s.set.name (.bool true) m else m) []
theorem wL(l:List Signed)(s:Signed):ir (l++[s])=if (s.set.type==1)=true then cG s.set.name (.bool true) (ir l)else ir l:=by unfold ir;rw[List.foldl_append];rfl
theorem Bj(n:Bs):∀(l:List Signed) (m:List (Bs×D)),cB n (l.foldl (fun m s=>if (s.set.type==1)=true then cG s.set.name (.bool true) m else m) m)=if (l.any fun s=>(s.set.type==1)&&(s.set.name==n))=true then some (.bool true)else cB n m
 | [],m=>by simp
 | s::t,m=>by
  rw[List.foldl_cons,Bj n t,List.any_cons];cases ht:t.any fun s=>(s.set.type==1)&&(s.set.name==n)with
  | true=>rw[aH];rfl
  | false =>
   rw[aA,if_neg (by simp)];cases h1:(s.set.type==1)with
   | true =>
    rw[if_pos rfl,rq,aC];by_cases hn:n=s.set.name
    . rw[if_pos hn,hn];simp
    . rw[if_neg hn,if_neg (by simp;exact fun e=>hn e.symm)]
   | false=>rw[if_neg (by simp),aD];simp
theorem Fk(a:Ans)(n:Bs):cB n (ir a.sets)=if ga a n=true then some (.bool true)else none:=by
 unfold ir;rw[Bj];rfl
theorem yo(a:Bs):∀m:List (Bs×D),fT (.str a) (m.map gi)=some (cB a m)
 | []=>rfl
 | (b,v)::t=>by
  show(match fo (.str a) [.tuple [.str b]]with | some true=>_ | some false=>fT (.str a) (t.map gi) | none=>none)=_
  have:fo (.str a) [.tuple [.str b]]=some (a==b):=rfl;rw[this];show _=some (if a=b then some v else cB a t)
  by_cases h:a=b
  . subst h;simp
  . have:(a==b)=false:=by simp[h]
    rw[this,if_neg h];exact yo a t
theorem Bk(a:Ans)(n:Bs):fT (.str n) ((ir a.sets).map gi)=some (if ga a n=true then some (.bool true)else none):=by rw[yo,Fk]
theorem FD(zs:List ai)(a:Ans)(l:List Bs)(n:Bs):iv zs a (l++[n])=iv zs a l++(match (if ga a n=true then none else iL zs n)with | some h=>[h] | none=>[]):=by
 unfold iv;rw[List.filterMap_append]
 congr 1
 rw[List.filterMap_cons];split <;> simp_all
theorem y5(zs:List ai)(a:Ans)(l:List Bs):(iv zs a l).length<=l.length:=List.length_filterMap_le _ _
theorem Df{zs:List ai}(hg:dq zs){a:Ans}{l:List Bs}(hl:∀n∈l,aj n=true):∀b∈iv zs a l,aj b=true:=fun b hb=>by
 unfold iv at hb;obtain⟨n,hn,hx⟩:=List.mem_filterMap.1 hb;split at hx
 . cases hx
 . exact pb hg (Bo (hl n hn) hx)
structure IV(a:Ans):Prop where
 sets:a.sets.length<=1000
 data:∀s∈a.sets,s.set.data.length<=100
theorem JL{z:aP}(hf:eu z=true)(q:aW):IV (bF z q).1:=⟨DI hf q,fun s hs=>by have:=((dx hf).2 s (Ly hf q s hs)).1;omega⟩
theorem wE{zs:List ai}(hg:dq zs){a:Bs}(ha:aj a=true){p:Bs×Ans}(h:dB zs a=some p):IV p.2:=by
 obtain⟨_,_,_,_,x,_,_,_,h2,u,_⟩:=A3 hg ha h;rw[h2];exact JL u.few _
end NP
namespace Go.Proofs.YtcecidfnchcagaaGreatDoor
open NQ Go NP Go.RowKit
set_option maxHeartbeats 1000000 in
theorem Bp(a:Ans)(hF:IV a):NQ.Fn cx 145 [.agg (dv a)] (.tuple [.d (.slice 1 ((fQ a).map aI)), .d (.kmap ((ir a.sets).map gi))]) []:=by
 refine aM bf mixed Tryz.func145 (by kernel_rfl) rfl (ag rfl) ?_;conv=>whnf
 have hlen:∀k,(fR a.cut (a.sets.take k)).length<=100000:=fun k=>by
  have:=wQ a.cut (a.sets.take k) fun s hs=>hF.data s (List.mem_of_mem_take hs)
  have h1:=List.length_take_le' k a.sets;have h2:=hF.sets;omega
 refine ⟨Nat, fun k => ⟨[(1, .ptr 1 0), (4, .own 4), (5, .omap 10), (12, .d (.slice 5 (a.sets.map au))), (13, .d (.int .i64 ((a.sets.map au).length : Int))), (14, .d (.int .i64 k))],
     [(1, .box ((dv a).map .d)),(4, .row 9 1 ((fR a.cut (a.sets.take k)).map aI)),(10, .smap (ir (a.sets.take k)))]⟩,fun k=>k<=a.sets.length,fun k=>a.sets.length-k,
  ⟨0,Nat.zero_le _,(an.lu 4 4 1 9 1 rfl rfl (by decide)).trans (an.keep ⟨⟨rfl,rfl⟩,⟨rfl,rfl⟩,⟨rfl,rfl⟩,⟨rfl,rfl⟩,⟨rfl,rfl⟩,⟨rfl,rfl⟩,trivial⟩ ⟨⟨rfl,rfl⟩,⟨rfl,rfl⟩,⟨rfl,rfl⟩,trivial⟩)⟩,fun k hk=>?_⟩
 dsimp only at hk ⊢
 conv=>whnf
 refine ae (fun h1=>?_) (fun h1=>?_) <;> (rw[h1];conv=>whnf)
 case refine_2 =>
  obtain rfl:k=a.sets.length:=by simp at h1;omega
  rw[List.take_length];exact af rfl rfl
 have hlt:k<a.sets.length:=by simpa using h1
 obtain⟨s,hs⟩:∃s,a.sets[k]? =some s:=⟨_,ah hlt⟩
 have hsd:=hF.data s (ao hs);have hsl:=hF.sets;have g1:(s.set.type==1)=true->ir (a.sets.take (k+1))=cG s.set.name (.bool true) (ir (a.sets.take k)):=fun h=>by rw[bw hs,wL,if_pos h]
 have g0:(s.set.type==1)=false->ir (a.sets.take (k+1))=ir (a.sets.take k):=fun h=>by rw[bw hs,wL,if_neg (by rw[h];simp)]
 have n1:jc a.cut s=true->fR a.cut (a.sets.take (k+1))=fR a.cut (a.sets.take k)++s.set.data.map (·.text):=fun h=>by rw[bw hs,uH,if_pos h]
 have n0:jc a.cut s=false->fR a.cut (a.sets.take (k+1))=fR a.cut (a.sets.take k):=fun h=>by rw[bw hs,uH,if_neg (by rw[h];simp),List.append_nil]
 refine⟨aJ k,au s,aT hs,?_⟩
 conv=>whnf
 refine ae (fun h2=>?_) (fun h2=>?_) <;> (rw[h2];conv=>whnf)
 . have hn:jc a.cut s=false:=by
    have e:s.set.type=1:=by simpa using h2
    unfold jc;rw[e];rfl
   refine ae (fun h3=>?_) (fun h3=>?_) <;> (rw[h3];conv=>whnf)
   . exfalso
     have e1:s.set.type=1:=by simpa using h2
     have e2:s.set.type=2:=by simpa using h3
     omega
   . refine⟨k+1,hlt,by(show a.sets.length-(k+1)<a.sets.length-k;omega),an.keep ⟨⟨rfl,rfl⟩,⟨rfl,rfl⟩,⟨rfl,rfl⟩,⟨rfl,rfl⟩,⟨rfl,rfl⟩,⟨ar (by omega),rfl⟩,trivial⟩ ⟨⟨rfl,rfl⟩,⟨?_,rfl⟩,⟨?_,rfl⟩,trivial⟩⟩
     . rw[n0 hn];rfl
     . rw[g1 h2];rfl
 . refine ae (fun h3=>?_) (fun h3=>?_) <;> (rw[h3];conv=>whnf)
   case refine_2 =>
    refine⟨k+1,hlt,by(show a.sets.length-(k+1)<a.sets.length-k;omega),an.keep ⟨⟨rfl,rfl⟩,⟨rfl,rfl⟩,⟨rfl,rfl⟩,⟨rfl,rfl⟩,⟨rfl,rfl⟩,⟨ar (by omega),rfl⟩,trivial⟩ ⟨⟨rfl,rfl⟩,⟨?_,rfl⟩,⟨?_,rfl⟩,trivial⟩⟩
    . rw[n0 (by unfold jc;rw[show(s.set.type==2)=false from h3];rfl)];rfl
    . rw[g0 h2];rfl
   refine ae (fun h4=>?_) (fun h4=>?_) <;> (rw[h4];conv=>whnf)
   case refine_2 =>
    refine⟨k+1,hlt,by(show a.sets.length-(k+1)<a.sets.length-k;omega),an.keep ⟨⟨rfl,rfl⟩,⟨rfl,rfl⟩,⟨rfl,rfl⟩,⟨rfl,rfl⟩,⟨rfl,rfl⟩,⟨ar (by omega),rfl⟩,trivial⟩ ⟨⟨rfl,rfl⟩,⟨?_,rfl⟩,⟨?_,rfl⟩,trivial⟩⟩
    . rw[n0 (by unfold jc;rw[show(s.set.name==a.cut)=false from h4];exact az _)];rfl
    . rw[g0 h2];rfl
   have hsv:jc a.cut s=true:=by unfold jc;rw[show(s.set.type==2)=true from h3,show(s.set.name==a.cut)=true from h4];rfl
   refine ⟨Nat, fun j => ⟨[(1, .ptr 1 0), (4, .own 4), (5, .omap 10), (12, .d (.slice 5 (a.sets.map au))), (13, .d (.int .i64 ((a.sets.map au).length : Int))), (14, .d (.int .i64 k)), (40, .d (.slice 3 (s.set.data.map b5))), (41, .d (.int .i64 ((s.set.data.map b5).length : Int))), (42, .d (.int .i64 j))],
       [(1, .box ((dv a).map .d)),(4, .row 9 1 ((fR a.cut (a.sets.take k)++(s.set.data.take j).map (·.text)).map aI)),(10, .smap (ir (a.sets.take k)))]⟩,fun j=>j<=s.set.data.length,fun j=>s.set.data.length-j,
    ⟨0,Nat.zero_le _,an.keep ⟨⟨rfl,rfl⟩,⟨rfl,rfl⟩,⟨rfl,rfl⟩,⟨rfl,rfl⟩,⟨rfl,rfl⟩,⟨rfl,rfl⟩,⟨rfl,rfl⟩,⟨rfl,rfl⟩,⟨rfl,rfl⟩,trivial⟩ ⟨⟨rfl,rfl⟩,⟨?_,rfl⟩,⟨rfl,rfl⟩,trivial⟩⟩,fun j hj=>?_⟩
   . show _=some (Blk.row _ _ ((fR a.cut (a.sets.take k)++[]).map aI) _)
     rw[List.append_nil];rfl
   dsimp only at hj ⊢
   conv=>whnf
   refine ae (fun h5=>?_) (fun h5=>?_) <;> (rw[h5];conv=>whnf)
   . have hjl:j<s.set.data.length:=by simpa using h5
     obtain⟨d,hd⟩:∃d,s.set.data[j]? =some d:=⟨_,ah hjl⟩
     have:=hlen k;refine⟨aJ j,b5 d,aT hd,?_⟩
     conv=>whnf
     refine⟨by(show((fR a.cut (a.sets.take k)++(s.set.data.take j).map (·.text)).map aI).length+1<=_);simp;omega,by(show(((fR a.cut (a.sets.take k)++(s.set.data.take j).map (·.text)).map aI).length+1)*16<=_);simp;omega,?_⟩
     conv=>whnf
     refine⟨j+1,hjl,by(show s.set.data.length-(j+1)<s.set.data.length-j;omega),an.keep ⟨⟨rfl,rfl⟩,⟨rfl,rfl⟩,⟨rfl,rfl⟩,⟨rfl,rfl⟩,⟨rfl,rfl⟩,⟨rfl,rfl⟩,⟨rfl,rfl⟩,⟨rfl,rfl⟩,⟨ar (by omega),rfl⟩,trivial⟩ ⟨⟨rfl,rfl⟩,⟨?_,rfl⟩,⟨rfl,rfl⟩,trivial⟩⟩;rw[bw hd];simp only[List.map_append,List.append_assoc];rfl
   . obtain rfl:j=s.set.data.length:=by simp at h5;omega
     refine⟨k+1,hlt,by(show a.sets.length-(k+1)<a.sets.length-k;omega),an.keep ⟨⟨rfl,rfl⟩,⟨rfl,rfl⟩,⟨rfl,rfl⟩,⟨rfl,rfl⟩,⟨rfl,rfl⟩,⟨ar (by omega),rfl⟩,trivial⟩ ⟨⟨rfl,rfl⟩,⟨?_,rfl⟩,⟨?_,rfl⟩,trivial⟩⟩
     . rw[n1 hsv,List.take_length];rfl
     . rw[g0 h2];rfl
noncomputable def cxL:Cx:={cx with chg:=fun g=>match Nat.beq g 157 with | true=>2 | false=>(match Nat.beq g 158 with | true=>1 | false=>cx.chg g)}
theorem tyL:bu cxL:=bf
theorem MW:cxL.P.follows .mixedOrders=true:=mixed
set_option maxHeartbeats 1000000 in
theorem BI(zs:List ai)(a:Bs)(hg:dq zs)(ha:aj a=true):NQ.Fn cx 89 [.agg (c7 zs), .str a] (.d (.slice 1 ((bE zs a).map aI))) []:=by
 show NQ.Fn cxL _ _ _ _
 refine cV (fun _=>[]) tyL MW Tryz.func89 (by kernel_rfl) rfl (ag rfl) ?_
 conv=>whnf
 (refine⟨_,_,yM zs a hg ha,?_⟩;conv=>whnf)
 cases hd:dB zs a with
 | none =>
  have e:bE zs a=[]:=by unfold bE;rw[hd]
  rw[e]
  conv=>whnf
  exact af rfl rfl
 | some p =>
  have e:bE zs a=Lib.compact (ic (iv zs p.2 (fQ p.2))):=by unfold bE;rw[hd]
  obtain⟨_,_,_,_,hv,hl⟩:=qO hg ha hd;rw[e]
  conv=>whnf
  (refine⟨_,_,Bp p.2 (wE hg ha hd),?_⟩;conv=>whnf)
  generalize fQ p.2=hs at hv hl ⊢
  refine ⟨Nat, fun k => ⟨[(2, .ptr 2 0), (9, .d (.kmap ((ir p.2.sets).map gi))), (10, .own 10), (29, .d (.slice 1 (hs.map aI))), (30, .d (.int .i64 ((hs.map aI).length : Int))), (31, .d (.int .i64 k))],
      [(2, .box ((c7 zs).map .d)),(10, .row 9 1 ((iv zs p.2 (hs.take k)).map aI))]⟩,fun k=>k<=hs.length,fun k=>hs.length-k,
   ⟨0,Nat.zero_le _,(an.lu 10 10 1 9 1 rfl rfl (by decide)).trans (an.keep ⟨⟨rfl,rfl⟩,⟨rfl,rfl⟩,⟨rfl,rfl⟩,⟨rfl,rfl⟩,⟨rfl,rfl⟩,⟨rfl,rfl⟩,trivial⟩ ⟨⟨rfl,rfl⟩,⟨rfl,rfl⟩,trivial⟩)⟩,fun k hk=>?_⟩
  dsimp only at hk ⊢
  conv=>whnf
  refine ae (fun h1=>?_) (fun h1=>?_) <;> (rw[h1];conv=>whnf)
  . have hlt:k<hs.length:=by simpa using h1
    obtain⟨n,hn⟩:∃n,hs[k]? =some n:=⟨_,ah hlt⟩
    have hnl:(iv zs p.2 (hs.take k)).length<=20:=by
     have:=y5 zs p.2 (hs.take k);have:=List.length_take_le' k hs;omega
    refine⟨aJ k,aI n,aT hn,?_⟩
    conv=>whnf
    (refine⟨_,_,A7 zs n (hv n (ao hn)),?_⟩;conv=>whnf)
    have hnext:=FD zs p.2 (hs.take k) n;rw[<- bw hn]at hnext;cases hh:iL zs n with
    | none =>
     conv=>whnf
     refine⟨k+1,hlt,by(show hs.length-(k+1)<hs.length-k;omega),an.keep ⟨⟨rfl,rfl⟩,⟨rfl,rfl⟩,⟨rfl,rfl⟩,⟨rfl,rfl⟩,⟨rfl,rfl⟩,⟨ar (by omega),rfl⟩,trivial⟩ ⟨⟨rfl,rfl⟩,⟨?_,rfl⟩,trivial⟩⟩;rw[hnext,hh];have:(if ga p.2 n=true then none else(none:Option Bs))=none:=by split <;> rfl
     rw[this,List.append_nil];rfl
    | some b =>
     conv=>whnf
     refine⟨_,Bk p.2 n,?_⟩;cases hgl:ga p.2 n with
     | true =>
      conv=>whnf
      refine⟨k+1,hlt,by(show hs.length-(k+1)<hs.length-k;omega),an.keep ⟨⟨rfl,rfl⟩,⟨rfl,rfl⟩,⟨rfl,rfl⟩,⟨rfl,rfl⟩,⟨rfl,rfl⟩,⟨ar (by omega),rfl⟩,trivial⟩ ⟨⟨rfl,rfl⟩,⟨?_,rfl⟩,trivial⟩⟩;rw[hnext,hgl,if_pos rfl,List.append_nil];rfl
     | false =>
      conv=>whnf
      refine⟨by(show((iv zs p.2 (hs.take k)).map aI).length+1<=_);simp;omega,by(show(((iv zs p.2 (hs.take k)).map aI).length+1)*16<=_);simp;omega,?_⟩
      conv=>whnf
      refine⟨k+1,hlt,by(show hs.length-(k+1)<hs.length-k;omega),an.keep ⟨⟨rfl,rfl⟩,⟨rfl,rfl⟩,⟨rfl,rfl⟩,⟨rfl,rfl⟩,⟨rfl,rfl⟩,⟨ar (by omega),rfl⟩,trivial⟩ ⟨⟨rfl,rfl⟩,⟨?_,rfl⟩,trivial⟩⟩;rw[hnext,hgl,if_neg (by simp),hh,List.map_append];rfl
  . obtain rfl:k=hs.length:=by simp at h1;omega
    rw[List.take_length];have hnl:(iv zs p.2 hs).length<=20:=Nat.le_trans (y5 zs p.2 hs) hl;have hnv:=Df hg (a:=p.2) hv;have hsl:(ic (iv zs p.2 hs)).length<=100000:=by rw[(ie _).length_eq];omega
    refine⟨_,u5 _ hnv (by omega) _,?_⟩;generalize ic (iv zs p.2 hs)=l at hsl ⊢
    conv=>whnf
    refine⟨_,CL l hsl _,?_⟩
    conv=>whnf
    exact af rfl rfl
end Go.Proofs.YtcecidfnchcagaaGreatDoor
namespace NP
open NQ Go
theorem yk(zs:List ai)(a:Ans)(l:List Bs)(n:Bs):gk zs a (l++[n])=gk zs a l++(match (if ga a n=true then none else match iL zs n with | none=>none | some h=>if oG zs h n=true then some h else none)with | some h=>[h] | none=>[]):=by
 unfold gk;rw[List.filterMap_append]
 congr 1
 cases hg:ga a n with
 | true=>simp[List.filterMap_cons,hg]
 | false =>
  cases hh:iL zs n with
  | none=>simp[List.filterMap_cons,hg,hh]
  | some b=>cases hk:oG zs b n <;> simp[List.filterMap_cons,hg,hh,hk]
theorem rO(zs:List ai)(a:Ans)(l:List Bs):(gk zs a l).length<=l.length:=List.length_filterMap_le _ _
end NP
namespace Go.Proofs.YtcecidfnchcagaaGreatDoor
open NQ Go NP Go.RowKit
set_option maxHeartbeats 2000000 in
theorem Mu(zs:List ai)(a:Bs)(hg:dq zs)(ha:aj a=true):NQ.Fn cx 79 [.agg (c7 zs), .str a] (.agg ((uf (iS zs a)).map .d)) []:=by
 refine aM bf mixed Tryz.func79 (by kernel_rfl) rfl (ag rfl) ?_;conv=>whnf
 (refine⟨_,_,yM zs a hg ha,?_⟩;conv=>whnf)
 cases hd:dB zs a with
 | none =>
  have e:iS zs a=Ls:=by unfold iS;rw[hd]
  rw[e]
  conv=>whnf
  exact af rfl rfl
 | some p =>
  have e:iS zs a=⟨true,(fQ p.2).any (ga p.2),p.1,gk zs p.2 (fQ p.2)⟩:=by unfold iS;rw[hd]
  obtain⟨_,_,_,_,hv,hl⟩:=qO hg ha hd;rw[e]
  conv=>whnf
  (refine⟨_,_,Bp p.2 (wE hg ha hd),?_⟩;conv=>whnf)
  generalize fQ p.2=hs at hv hl ⊢
  refine ⟨Nat, fun k => ⟨[(2, .ptr 2 0), (4, .ptr 4 0), (8, .ptr 8 0), (10, .d (.kmap ((ir p.2.sets).map gi))), (34, .d (.slice 1 (hs.map aI))), (35, .d (.int .i64 ((hs.map aI).length : Int))), (36, .d (.int .i64 k))],
      [(2, .box ((c7 zs).map .d)),(4, .box [.d (.bool false), .d (.bool false), .d (.str []), .nil 1]),(8, .box [.d (.bool true), .d (.bool ((hs.take k).any (ga p.2))), .d (.str p.1), .own 200]),(200, .row 9 1 ((gk zs p.2 (hs.take k)).map aI))]⟩,fun k=>k<=hs.length,fun k=>hs.length-k,
   ⟨0,Nat.zero_le _,(an.rb 8 3 200 1 [.d (.bool true), .d (.bool false), .d (.str p.1), .nil 1] 9 1 (by kernel_rfl) rfl (by kernel_rfl) (by decide)).trans (an.keep ⟨⟨rfl,rfl⟩,⟨rfl,rfl⟩,⟨rfl,rfl⟩,⟨rfl,rfl⟩,⟨rfl,rfl⟩,⟨rfl,rfl⟩,⟨rfl,rfl⟩,trivial⟩ ⟨⟨rfl,rfl⟩,⟨rfl,rfl⟩,⟨rfl,rfl⟩,⟨rfl,rfl⟩,trivial⟩)⟩,fun k hk=>?_⟩
  dsimp only at hk ⊢
  conv=>whnf
  refine ae (fun h1=>?_) (fun h1=>?_) <;> (rw[h1];conv=>whnf)
  case refine_2 =>
   obtain rfl:k=hs.length:=by simp at h1;omega
   rw[List.take_length];exact af rfl rfl
  have hlt:k<hs.length:=by simpa using h1
  obtain⟨n,hn⟩:∃n,hs[k]? =some n:=⟨_,ah hlt⟩
  have hvn:=hv n (ao hn);have hnl:(gk zs p.2 (hs.take k)).length<=20:=by
   have:=rO zs p.2 (hs.take k);have:=List.length_take_le' k hs;omega
  have hnext:=yk zs p.2 (hs.take k) n;rw[<- bw hn]at hnext;have hany:(hs.take (k+1)).any (ga p.2)=((hs.take k).any (ga p.2)||ga p.2 n):=by rw[bw hn,List.any_append];simp
  refine⟨aJ k,aI n,aT hn,?_⟩
  conv=>whnf
  refine⟨_,Bk p.2 n,?_⟩;cases hgl:ga p.2 n with
  | true =>
   conv=>whnf
   refine⟨k+1,hlt,by(show hs.length-(k+1)<hs.length-k;omega),an.keep ⟨⟨rfl,rfl⟩,⟨rfl,rfl⟩,⟨rfl,rfl⟩,⟨rfl,rfl⟩,⟨rfl,rfl⟩,⟨rfl,rfl⟩,⟨ar (by omega),rfl⟩,trivial⟩ ⟨⟨rfl,rfl⟩,⟨rfl,rfl⟩,⟨?_,rfl⟩,⟨?_,rfl⟩,trivial⟩⟩
   . rw[hany,hgl,aH];rfl
   . rw[hnext,hgl,if_pos rfl,List.append_nil];rfl
  | false =>
   have hany:(hs.take (k+1)).any (ga p.2)=(hs.take k).any (ga p.2):=by rw[hany,hgl,aA]
   rw[hgl,if_neg (by simp)]at hnext
   conv=>whnf
   (refine⟨_,_,A7 zs n hvn,?_⟩;conv=>whnf)
   cases hh:iL zs n with
   | none =>
    rw[hh]at hnext
    conv=>whnf
    refine⟨k+1,hlt,by(show hs.length-(k+1)<hs.length-k;omega),an.keep ⟨⟨rfl,rfl⟩,⟨rfl,rfl⟩,⟨rfl,rfl⟩,⟨rfl,rfl⟩,⟨rfl,rfl⟩,⟨rfl,rfl⟩,⟨ar (by omega),rfl⟩,trivial⟩ ⟨⟨rfl,rfl⟩,⟨rfl,rfl⟩,⟨?_,rfl⟩,⟨?_,rfl⟩,trivial⟩⟩
    . rw[hany];rfl
    . rw[hnext,List.append_nil];rfl
   | some b =>
    rw[hh]at hnext;have hsp:=wO zs hvn;rw[hh]at hsp;obtain⟨x,hx⟩:=Option.isSome_iff_exists.1 hsp.1;have hkn:oG zs b n=((bF x.2.zone ⟨n,1⟩).1.kind==1):=by unfold oG;rw[hx]
    have hzk:=nF zs b;rw[hx]at hzk
    conv=>whnf
    refine⟨_,hzk,?_⟩
    conv=>whnf
    (refine⟨_,_,qB x.2.zone ⟨n,1⟩ (by have:=(dx (hg _ (pU hx).1).1).1;omega),?_⟩;conv=>whnf)
    refine ae (fun h2=>?_) (fun h2=>?_) <;> (rw[h2];conv=>whnf)
    . have h2' :oG zs b n=true:=hkn.trans h2;refine⟨by(show((gk zs p.2 (hs.take k)).map aI).length+1<=_);simp;omega,by(show(((gk zs p.2 (hs.take k)).map aI).length+1)*16<=_);simp;omega,?_⟩
      conv=>whnf
      refine⟨k+1,hlt,by(show hs.length-(k+1)<hs.length-k;omega),an.keep ⟨⟨rfl,rfl⟩,⟨rfl,rfl⟩,⟨rfl,rfl⟩,⟨rfl,rfl⟩,⟨rfl,rfl⟩,⟨rfl,rfl⟩,⟨ar (by omega),rfl⟩,trivial⟩ ⟨⟨rfl,rfl⟩,⟨rfl,rfl⟩,⟨?_,rfl⟩,⟨?_,rfl⟩,trivial⟩⟩
      . rw[hany];rfl
      . rw[hnext];dsimp only;rw[if_pos h2',List.map_append];rfl
    . have h2' :oG zs b n=false:=hkn.trans h2;refine⟨k+1,hlt,by(show hs.length-(k+1)<hs.length-k;omega),an.keep ⟨⟨rfl,rfl⟩,⟨rfl,rfl⟩,⟨rfl,rfl⟩,⟨rfl,rfl⟩,⟨rfl,rfl⟩,⟨rfl,rfl⟩,⟨ar (by omega),rfl⟩,trivial⟩ ⟨⟨rfl,rfl⟩,⟨rfl,rfl⟩,⟨?_,rfl⟩,⟨?_,rfl⟩,trivial⟩⟩
      . rw[hany];rfl
      . rw[hnext];dsimp only;rw[if_neg (by rw[h2'];simp),List.append_nil];rfl
end Go.Proofs.YtcecidfnchcagaaGreatDoor
namespace NP
open NQ Go
def lU(zs:List ai)(l:List Bs):List (Bs×D):=l.map fun a=>(a, .agg (uf (iS zs a)))
theorem uV(zs:List ai)(a:Bs):∀l:List Bs,cB a (lU zs l)=if l.contains a=true then some (.agg (uf (iS zs a)))else none
 | []=>rfl
 | b::t=>by
  show(if a=b then _ else cB a (lU zs t))=_
  rw[uV zs a t,List.contains_cons];by_cases h:a=b
  . subst h;simp
  . rw[if_neg h,show(a==b)=false by simpa using h,ax]
theorem xl(zs:List ai){a:Bs}:∀{r:List Bs},r.contains a=false->cG a (.agg (uf (iS zs a))) (lU zs r)=lU zs (r++[a])
 | [],_=>rfl
 | b::t,h=>by
  rw[List.contains_cons,Bool.or_eq_false_iff]at h;have hne:¬a=b:=by simpa using h.1
  show(if a=b then _ else(b,_)::cG a _ (lU zs t))=_
  rw[if_neg hne,xl zs h.2];rfl
def sH(l:List Bs)(p:Bs->Bool):Int:=if l.any p=true then(l.findIdx p:Int)else -1
theorem J0{l:List Bs}{p:Bs->Bool}{k:Nat}{x:Bs}(hno:(l.take k).any p=false)(hx:l[k]? =some x)(hp:p x=true):sH l p=k:=by
 obtain⟨hlt,e⟩:=aq.1 hx;unfold sH;rw[if_pos (List.any_eq_true.2 ⟨x,ao hx,hp⟩)]
 congr 1
 rw[List.findIdx_eq hlt];refine⟨by rw[e];exact hp,fun j hj=>?_⟩;have h1:l[j]∈l.take k:=by
  rw[List.mem_take_iff_getElem];exact⟨j,by omega,rfl⟩
 have:=List.any_eq_false.1 hno _ h1;simpa using this
theorem Hl{l:List Bs}{p:Bs->Bool}(h:l.any p=false):sH l p= -1:=by unfold sH;rw[if_neg (by rw[h];simp)]
theorem J1(l:List Bs)(p:Bs->Bool):decide (sH l p>=0)=l.any p:=by
 unfold sH;cases h:l.any p with
 | true=>rw[if_pos rfl];exact decide_eq_true (aJ _)
 | false=>rw[if_neg (by simp)];rfl
theorem Ij(zs:List ai){a:Bs}(h:a∈aU zs):fT (.str a) ((lU zs (aU zs)).map gi)=some (some (.agg (uf (iS zs a)))):=by
 rw[yo,uV,if_pos (dm.2 h)]
end NP
namespace Go.Proofs.YtcecidfnchcagaaGreatDoor
open NQ Go NP Go.RowKit
noncomputable def cxZ:Cx:={cx with chg:=fun g=>match Nat.beq g 80 with | true=>6 | false=>(match Nat.beq g 81 with | true=>6 | false=>(match Nat.beq g 148 with | true=>6 | false=>  (match Nat.beq g 215 with | true=>6 | false=>(match Nat.beq g 82 with | true=>6 | false=>cx.chg g))))}
theorem tyZ:bu cxZ:=bf
theorem qg:cxZ.P.follows .mixedOrders=true:=mixed
def isR:AV:= .fn 80 [] [.ptr 100008 0]
def hZ(r:List Bs):List (Nat×Blk):=[(100008, .box [.omap 33]),(100009, .box [isR]),(33, .smap (mO r))]
def hG(zs:List ai)(r:List Bs):List (Nat×Blk):=[(100004, .box ((c7 zs).map .d)),(100005, .box [.d (.kmap ((lU zs (aU zs)).map gi))]),(100008, .box [.omap 33]),(100009, .box [isR]),(33, .smap (mO r))]
theorem rK(r:List Bs)(a:Bs):FnH cxZ 80 [.d (.str a), .ptr 100008 0] (hZ r) (.d (.bool (r.contains a))) (hZ r):=by
 refine lL (fun _=>[]) tyZ qg Tryz.func80 (by kernel_rfl) rfl (ag rfl) (ag rfl) ?_
 conv=>whnf
 rw[lW];cases h:r.contains a with
 | true =>
  conv=>whnf
  exact⟨[(3, .d (.bool true))],an.keep ⟨⟨(by kernel_rfl),(by kernel_rfl)⟩,trivial⟩ ⟨⟨(by kernel_rfl),(by kernel_rfl)⟩,⟨(by kernel_rfl),(by kernel_rfl)⟩,⟨(by kernel_rfl),(by kernel_rfl)⟩,trivial⟩,rfl⟩
 | false =>
  conv=>whnf
  exact⟨[(3, .d (.bool false))],an.keep ⟨⟨(by kernel_rfl),(by kernel_rfl)⟩,trivial⟩ ⟨⟨(by kernel_rfl),(by kernel_rfl)⟩,⟨(by kernel_rfl),(by kernel_rfl)⟩,⟨(by kernel_rfl),(by kernel_rfl)⟩,trivial⟩,rfl⟩
theorem Fp(l r:List Bs)(hl:l.length<=100000):FnH cxZ 215 [.d (.slice 1 (l.map aI)),isR] (hZ r) (.d (.int .i64 (sH l r.contains))) (hZ r):=by
 refine lL (fun | 4=>[88888] | _=>[]) tyZ qg Tryz.func215 (by kernel_rfl) rfl (ag rfl) (ag rfl) ?_
 conv=>whnf
 refine⟨Nat,fun k=>⟨[(0, .d (.slice 1 (l.map aI))),(1,isR),(7, .d (.int .i64 ((l.map aI).length:Int))),(8, .d (.int .i64 k))],hZ r⟩,fun k=>k<=l.length/\(l.take k).any r.contains=false,fun k=>l.length-k,
  ⟨0,⟨Nat.zero_le _,rfl⟩,an.keep ⟨⟨rfl,rfl⟩,⟨rfl,rfl⟩,⟨rfl,rfl⟩,⟨rfl,rfl⟩,trivial⟩ ⟨⟨rfl,rfl⟩,⟨rfl,rfl⟩,⟨rfl,rfl⟩,trivial⟩⟩,fun k ⟨hk,hno⟩=>?_⟩
 dsimp only at hk hno ⊢
 conv=>whnf
 refine ae (fun h1=>?_) (fun h1=>?_) <;> (rw[h1];conv=>whnf)
 . have hlt:k<l.length:=by simpa using h1
   obtain⟨x,hx⟩:∃x,l[k]? =some x:=⟨_,ah hlt⟩
   refine⟨aJ k,aI x,aT hx,?_⟩
   conv=>whnf
   refine⟨[],_,_,rK r x,⟨⟨by kernel_rfl,by kernel_rfl⟩,by kernel_rfl,by kernel_rfl,by kernel_rfl⟩,?_⟩
   conv=>whnf
   cases hr:r.contains x with
   | true =>
    conv=>whnf
    rw[J0 hno hx hr];exact⟨[(4, .d (.int .i64 k))],an.keep ⟨⟨rfl,rfl⟩,trivial⟩ ⟨⟨rfl,rfl⟩,⟨rfl,rfl⟩,⟨rfl,rfl⟩,trivial⟩,rfl⟩
   | false =>
    conv=>whnf
    refine⟨k+1,⟨hlt,?_⟩,by(show l.length-(k+1)<l.length-k;omega),an.keep ⟨⟨rfl,rfl⟩,⟨rfl,rfl⟩,⟨rfl,rfl⟩,⟨ar (by omega),rfl⟩,trivial⟩ ⟨⟨rfl,rfl⟩,⟨rfl,rfl⟩,⟨rfl,rfl⟩,trivial⟩⟩;rw[bw hx,List.any_append,hno];simp only[List.any_cons,List.any_nil,hr];rfl
 . obtain rfl:k=l.length:=by simp at h1;omega
   rw[List.take_length]at hno;rw[Hl hno];exact⟨[(4, .d (.int .i64 (-1)))],an.keep ⟨⟨rfl,rfl⟩,trivial⟩ ⟨⟨rfl,rfl⟩,⟨rfl,rfl⟩,⟨rfl,rfl⟩,trivial⟩,rfl⟩
theorem zK(l r:List Bs)(hl:l.length<=100000):FnH cxZ 148 [.d (.slice 1 (l.map aI)),isR] (hZ r) (.d (.bool (l.any r.contains))) (hZ r):=by
 refine lL (fun | 1=>[88888] | _=>[]) tyZ qg Tryz.func148 (by kernel_rfl) rfl (ag rfl) (ag rfl) ?_
 conv=>whnf
 refine⟨[],_,_,Fp l r hl,⟨⟨by kernel_rfl,by kernel_rfl⟩,by kernel_rfl,by kernel_rfl,by kernel_rfl⟩,?_⟩
 conv=>whnf
 rw[<- J1 l r.contains];exact⟨[(4, .d (.bool (decide (sH l r.contains>=0))))],an.keep ⟨⟨rfl,rfl⟩,trivial⟩ ⟨⟨rfl,rfl⟩,⟨rfl,rfl⟩,⟨rfl,rfl⟩,trivial⟩,rfl⟩
theorem Kn(rd:tK)(r:List Bs)(hl:rd.homes.length<=100000):FnH cxZ 82 [.agg ((uf rd).map .d),isR] (hZ r) (.d (.bool (nV rd r.contains))) (hZ r):=by
 obtain⟨th,gl,ab,hm⟩:=rd;refine lL (fun | 1=>[88888] | _=>[]) tyZ qg Tryz.func82 (by kernel_rfl) rfl (ag rfl) (ag rfl) ?_
 conv=>whnf
 cases th with
 | false =>
  conv=>whnf
  exact⟨[(4, .d (.bool false))],an.keep ⟨⟨rfl,rfl⟩,trivial⟩ ⟨⟨rfl,rfl⟩,⟨rfl,rfl⟩,⟨rfl,rfl⟩,trivial⟩,rfl⟩
 | true =>
  conv=>whnf
  refine⟨[2],_,_,rK r ab,⟨⟨by kernel_rfl,by kernel_rfl⟩,by kernel_rfl,by kernel_rfl,by kernel_rfl⟩,?_⟩
  conv=>whnf
  have e:nV ⟨true,gl,ab,hm⟩ r.contains=(r.contains ab&&(gl||hm.any r.contains)):=by unfold nV;rw[aC]
  rw[e];cases ha:r.contains ab with
  | false =>
   conv=>whnf
   exact⟨[(4, .d (.bool false))],an.keep ⟨⟨rfl,rfl⟩,trivial⟩ ⟨⟨rfl,rfl⟩,⟨rfl,rfl⟩,⟨rfl,rfl⟩,trivial⟩,rfl⟩
  | true =>
   conv=>whnf
   cases gl with
   | true =>
    conv=>whnf
    exact⟨[(4, .d (.bool true))],an.keep ⟨⟨rfl,rfl⟩,trivial⟩ ⟨⟨rfl,rfl⟩,⟨rfl,rfl⟩,⟨rfl,rfl⟩,trivial⟩,rfl⟩
   | false =>
    conv=>whnf
    refine⟨[2],_,_,zK hm r hl,⟨⟨by kernel_rfl,by kernel_rfl⟩,by kernel_rfl,by kernel_rfl,by kernel_rfl⟩,?_⟩
    conv=>whnf
    exact⟨[(4, .d (.bool (hm.any r.contains)))],an.keep ⟨⟨rfl,rfl⟩,trivial⟩ ⟨⟨rfl,rfl⟩,⟨rfl,rfl⟩,⟨rfl,rfl⟩,trivial⟩,rfl⟩
set_option maxHeartbeats 1000000 in
theorem JY(zs:List ai)(r:List Bs)(hg:dq zs)(hz:zs.length<=1000):FnH cxZ 81 [.ptr 100004 0, .ptr 100008 0, .ptr 100005 0, .ptr 100009 0] (hG zs r) (.d (.bool (decide (r.length<(iu zs r).length)))) (hG zs (iu zs r)):=by
 have hal:=nH zs;refine lL (fun | 5=>[88888] | _=>[]) tyZ qg Tryz.func81 (by kernel_rfl) rfl (ag rfl) (ag rfl) ?_
 conv=>whnf
 refine⟨Nat×List Bs,fun x=>⟨[(0, .ptr 100004 0),(1, .ptr 100008 0),(2, .ptr 100005 0),(3, .ptr 100009 0),(5, .d (.bool (decide (r.length<x.2.length)))),(9, .d (.slice 1 ((aU zs).map aI))),(10, .d (.int .i64 (((aU zs).map aI).length:Int))),(11, .d (.int .i64 x.1))],hG zs x.2⟩,
  fun x=>x.1<=(aU zs).length/\mL zs x.2 ((aU zs).drop x.1)=iu zs r/\r.length<=x.2.length,fun x=>(aU zs).length-x.1,
  ⟨(0,r),⟨Nat.zero_le _,rfl,Nat.le_refl _⟩,an.keep ⟨⟨rfl,rfl⟩,⟨rfl,rfl⟩,⟨rfl,rfl⟩,⟨rfl,rfl⟩,⟨by(show AV.d (D.bool false)=AV.d (D.bool (decide (r.length<r.length))));rw[decide_eq_false (Nat.lt_irrefl _)],rfl⟩,⟨rfl,rfl⟩,⟨rfl,rfl⟩,⟨rfl,rfl⟩,trivial⟩ ⟨⟨rfl,rfl⟩,⟨rfl,rfl⟩,⟨rfl,rfl⟩,⟨rfl,rfl⟩,⟨rfl,rfl⟩,trivial⟩⟩,fun⟨k,r'⟩ ⟨hk,hinv,hle⟩=>?_⟩
 dsimp only at hk hinv hle ⊢
 conv=>whnf
 refine ae (fun h1=>?_) (fun h1=>?_) <;> (rw[h1];conv=>whnf)
 case refine_2 =>
  obtain rfl:k=(aU zs).length:=by simp at h1;omega
  rw[List.drop_length]at hinv;have hinv:r' =iu zs r:=hinv;subst hinv;exact⟨[(4, .d (.bool (decide (r.length<(iu zs r).length))))],an.keep ⟨⟨rfl,rfl⟩,trivial⟩ ⟨⟨rfl,rfl⟩,⟨rfl,rfl⟩,⟨rfl,rfl⟩,⟨rfl,rfl⟩,⟨rfl,rfl⟩,trivial⟩,rfl⟩
 have hlt:k<(aU zs).length:=by simpa using h1
 obtain⟨a,ha⟩:∃a,(aU zs)[k]? =some a:=⟨_,ah hlt⟩
 have ham:=ao ha;rw[drop_cons ha]at hinv;have hinv:mL zs (dC zs r' a) ((aU zs).drop (k+1))=iu zs r:=hinv;have same:gY zs r' a=false->dC zs r' a=r' :=fun h=>by unfold dC;rw[if_neg (by rw[h];simp)]
 have more:gY zs r' a=true->dC zs r' a=r' ++[a]:=fun h=>by unfold dC;rw[if_pos h]
 refine⟨aJ k,aI a,aT ha,?_⟩
 conv=>whnf
 rw[lW];have roadlen:(iS zs a).homes.length<=100000:=by
  unfold iS;cases hd:dB zs a with
  | none=>exact Nat.zero_le _
  | some p =>
   have hav:aj a=true:=pb hg ((jQ zs a).2 (nT.1 ham));obtain⟨_,_,_,_,_,hl⟩:=qO hg hav hd;have:=rO zs p.2 (fQ p.2);dsimp only;omega
 cases hc:r'.contains a with
 | true =>
  have hgo:gY zs r' a=false:=by unfold gY;rw[hc];rfl
  rw[same hgo]at hinv
  conv=>whnf
  exact⟨(k+1,r'),⟨hlt,hinv,hle⟩,by(show(aU zs).length-(k+1)<(aU zs).length-k;omega),an.keep ⟨⟨rfl,rfl⟩,⟨rfl,rfl⟩,⟨rfl,rfl⟩,⟨rfl,rfl⟩,⟨rfl,rfl⟩,⟨rfl,rfl⟩,⟨rfl,rfl⟩,⟨ar (by omega),rfl⟩,trivial⟩ ⟨⟨rfl,rfl⟩,⟨rfl,rfl⟩,⟨rfl,rfl⟩,⟨rfl,rfl⟩,⟨rfl,rfl⟩,trivial⟩⟩
 | false =>
  have hnew : gY zs r' a = true -> an cxZ ⟨[(0, .ptr 100004 0), (1, .ptr 100008 0), (2, .ptr 100005 0), (3, .ptr 100009 0), (5, .d (.bool true)), (9, .d (.slice 1 ((aU zs).map aI))), (10, .d (.int .i64 (((aU zs).map aI).length : Int))), (11, .d (.int .i64 ((k + 1 : Nat) : Int)))], [(100004, .box ((c7 zs).map .d)), (100005, .box [.d (.kmap ((lU zs (aU zs)).map gi))]), (100008, .box [.omap 33]), (100009, .box [isR]), (33, .smap (cG a (.bool true) (mO r')))]⟩
      ⟨[(0, .ptr 100004 0),(1, .ptr 100008 0),(2, .ptr 100005 0),(3, .ptr 100009 0),(5, .d (.bool (decide (r.length<(r' ++[a]).length)))),(9, .d (.slice 1 ((aU zs).map aI))),(10, .d (.int .i64 (((aU zs).map aI).length:Int))),(11, .d (.int .i64 ((k+1:Nat):Int)))],hG zs (r' ++[a])⟩:=fun _=>by
   refine an.keep ⟨⟨rfl,rfl⟩,⟨rfl,rfl⟩,⟨rfl,rfl⟩,⟨rfl,rfl⟩,⟨?_,rfl⟩,⟨rfl,rfl⟩,⟨rfl,rfl⟩,⟨rfl,rfl⟩,trivial⟩ ⟨⟨rfl,rfl⟩,⟨rfl,rfl⟩,⟨rfl,rfl⟩,⟨rfl,rfl⟩,⟨congrArg (fun m=>some (Blk.smap m)) (s8 hc),rfl⟩,trivial⟩;rw[decide_eq_true (by simp;omega)];rfl
  conv=>whnf
  cases h46:(a==[46])with
  | true =>
   have hgo:gY zs r' a=true:=by unfold gY;rw[hc,h46];rfl
   rw[more hgo]at hinv
   conv=>whnf
   refine⟨(k+1,r' ++[a]),⟨hlt,hinv,by simp;omega⟩,by(show(aU zs).length-(k+1)<(aU zs).length-k;omega),an.trans ?_ (hnew hgo)⟩;exact an.keep ⟨⟨rfl,rfl⟩,⟨rfl,rfl⟩,⟨rfl,rfl⟩,⟨rfl,rfl⟩,⟨rfl,rfl⟩,⟨rfl,rfl⟩,⟨rfl,rfl⟩,⟨ar (by omega),rfl⟩,trivial⟩ ⟨⟨rfl,rfl⟩,⟨rfl,rfl⟩,⟨rfl,rfl⟩,⟨rfl,rfl⟩,⟨rfl,rfl⟩,trivial⟩
  | false =>
   conv=>whnf
   refine⟨_,Ij zs ham,?_⟩
   conv=>whnf
   refine⟨[100004,100005],_,_,Kn (iS zs a) r' roadlen,⟨⟨by kernel_rfl,by kernel_rfl⟩,by kernel_rfl,by kernel_rfl,by kernel_rfl⟩,?_⟩
   conv=>whnf
   cases ho:nV (iS zs a) r'.contains with
   | true =>
    have hgo:gY zs r' a=true:=by unfold gY;rw[hc,ho];simp
    rw[more hgo]at hinv
    conv=>whnf
    refine⟨(k+1,r' ++[a]),⟨hlt,hinv,by simp;omega⟩,by(show(aU zs).length-(k+1)<(aU zs).length-k;omega),an.trans ?_ (hnew hgo)⟩;exact an.keep ⟨⟨rfl,rfl⟩,⟨rfl,rfl⟩,⟨rfl,rfl⟩,⟨rfl,rfl⟩,⟨rfl,rfl⟩,⟨rfl,rfl⟩,⟨rfl,rfl⟩,⟨ar (by omega),rfl⟩,trivial⟩ ⟨⟨rfl,rfl⟩,⟨rfl,rfl⟩,⟨rfl,rfl⟩,⟨rfl,rfl⟩,⟨rfl,rfl⟩,trivial⟩
   | false =>
    have hgo:gY zs r' a=false:=by unfold gY;rw[hc,ho,h46];rfl
    rw[same hgo]at hinv
    conv=>whnf
    exact⟨(k+1,r'),⟨hlt,hinv,hle⟩,by(show(aU zs).length-(k+1)<(aU zs).length-k;omega),an.keep ⟨⟨rfl,rfl⟩,⟨rfl,rfl⟩,⟨rfl,rfl⟩,⟨rfl,rfl⟩,⟨rfl,rfl⟩,⟨rfl,rfl⟩,⟨rfl,rfl⟩,⟨ar (by omega),rfl⟩,trivial⟩ ⟨⟨rfl,rfl⟩,⟨rfl,rfl⟩,⟨rfl,rfl⟩,⟨rfl,rfl⟩,⟨rfl,rfl⟩,trivial⟩⟩
end Go.Proofs.YtcecidfnchcagaaGreatDoor
namespace NP
open NQ Go
def oO:Nat->List Bs->List (Bs×D)
 | _,[]=>[]
 | i,a::t=>(a, .int .i64 (i:Nat))::oO (i+1) t
theorem uR(a:Bs):∀(l:List Bs) (i:Nat),cB a (oO i l)=if l.contains a=true then some (.int .i64 ((i+l.idxOf a:Nat):Int))else none
 | [],i=>rfl
 | b::t,i=>by
  show(if a=b then _ else cB a (oO (i+1) t))=_
  rw[uR a t (i+1),List.contains_cons,List.idxOf_cons];by_cases h:a=b
  . subst h;simp
  . have h1:(a==b)=false:=by simpa using h
    have h2:(b==a)=false:=by simpa using fun e:b=a=>h e.symm
    rw[if_neg h,h1,h2,ax];by_cases hc:t.contains a=true
    . rw[if_pos hc,if_pos hc];have e:i+1+t.idxOf a=i+(t.idxOf a+1):=by omega
      rw[e];rfl
    . rw[if_neg hc,if_neg hc]
theorem xe{a:Bs}:∀{l:List Bs} {i:Nat},l.contains a=false->cG a (.int .i64 ((i+l.length:Nat):Int)) (oO i l)=oO i (l++[a])
 | [],i,_=>rfl
 | b::t,i,h=>by
  rw[List.contains_cons,Bool.or_eq_false_iff]at h;have hne:¬a=b:=by simpa using h.1
  show(if a=b then _ else(b,_)::cG a _ (oO (i+1) t))=_
  have e:i+(b::t).length=i+1+t.length:=by simp;omega
  rw[if_neg hne,e,xe (l:=t) h.2];rfl
theorem CG{zs:List ai}{f:Nat}{met:List Bs}{s:Bs}(h:met.contains s=true):eV zs (f+1) met s=(met.drop (met.idxOf s),true):=by rw[eV,if_pos h]
theorem Av{zs:List ai}{f:Nat}{met:List Bs}{s:Bs}(h:met.contains s=false)(hl:gE zs s=none):eV zs (f+1) met s=([],false):=by rw[eV,if_neg (by rw[h];simp),hl]
theorem Aw{zs:List ai}{f:Nat}{met:List Bs}{s n:Bs}(h:met.contains s=false)(hl:gE zs s=some n):eV zs (f+1) met s=eV zs f (met++[s]) n:=by rw[eV,if_neg (by rw[h];simp),hl]
theorem u9{zs:List ai}(hf:∀p∈zs,eu p.zone=true):(fO zs).length<=zs.length*2000:=by
 unfold fO;induction zs with
 | nil=>simp
 | cons p t ih =>
  have h1:=dx (hf p (List.mem_cons_self ..));have h2:=ih fun q hq=>hf q (aX _ hq)
  have h3:∀l:List Signed,(∀s∈l,s.set.data.length<=20)->(l.flatMap fun s=>s.set.data.map (·.text)).length<=20*l.length:=fun l=>by
   induction l with
   | nil=>intro _;simp
   | cons s r ih2 =>
    intro hs;have a1:=hs s (List.mem_cons_self ..);have a2:=ih2 fun x hx=>hs x (aX _ hx)
    rw[List.flatMap_cons,List.length_append,ak,List.length_cons];omega
  have h4:=h3 p.zone.sets fun s hs=>(h1.2 s hs).1
  rw[List.flatMap_cons,List.length_append,List.length_cons];omega
end NP
namespace Go.Proofs.YtcecidfnchcagaaGreatDoor
open NQ Go NP Go.RowKit
theorem CI(l:List Bs)(hl:l.length<=1000000):NQ.Fn cx 92 [.slice 1 (l.map aI)] (.d (.slice 1 (l.map aI))) []:=by
 refine aM bf mixed Tryz.func92 (by kernel_rfl) rfl (ag rfl) ?_;conv=>whnf
 refine⟨fun h=>?_,?_⟩
 . refine af rfl ?_;rw[List.isEmpty_iff.1 h];rfl
 . conv=>whnf
   refine⟨by(show 0+(l.map aI).length<=_;simp;omega),by(show(0+(l.map aI).length)*16<=_;simp;omega),?_⟩
   conv=>whnf
   exact af rfl rfl
theorem tW(w:bS)(hF:kB w)(hv:cC w=true):NQ.Fn cx 78 [.agg (cH w)] (.agg ((c7 w.zones).map .d)) [] :=
 BJ w (fun p hp=>(bx (oS hv p hp).1).apex) (by have:=hF.zones;omega)
theorem rJ(w:bS)(a:Bs)(hF:kB w)(h:fD w a=0):NQ.Fn cx 88 [.agg (cH w), .str a] (.tuple [.agg ((c7 w.zones).map .d), .d (.int .i64 0)]) []:=by
 obtain⟨hv,ha,hc⟩:=oA h;have fV:=px w hF;rw[hv]at fV;have fN:=iF a;rw[ha]at fN;obtain⟨x,hx⟩:=Option.isSome_iff_exists.1 hc;have hk:=nF w.zones a;rw[hx]at hk;refine aM bf mixed Tryz.func88 (by kernel_rfl) rfl (ag rfl) ?_;conv=>whnf
 (refine⟨_,_,fV,?_⟩;conv=>whnf)
 (refine⟨_,_,fN,?_⟩;conv=>whnf)
 (refine⟨_,_,tW w hF hv,?_⟩;conv=>whnf)
 refine⟨_,hk,?_⟩
 conv=>whnf
 exact af rfl rfl
theorem pY(w:bS)(a:Bs)(hF:kB w)(h:fD w a ≠ 0):NQ.Fn cx 88 [.agg (cH w), .str a] (.tuple [.agg [.d .nmap, .nil 1], .d (.int .i64 (fD w a))]) []:=by
 have fV:=px w hF;have fN:=iF a;unfold fD at h ⊢;refine aM bf mixed Tryz.func88 (by kernel_rfl) rfl (ag rfl) ?_;conv=>whnf
 (refine⟨_,_,fV,?_⟩;conv=>whnf)
 cases hv:cC w with
 | false =>
  rw[if_pos (by rfl)]
  conv=>whnf
  exact rk (bs:=[]) (by kernel_rfl) (by kernel_rfl) trivial
 | true =>
  conv=>whnf
  (refine⟨_,_,fN,?_⟩;conv=>whnf)
  cases ha:aj a with
  | false =>
   rw[if_pos (by rfl)]
   conv=>whnf
   exact rk (bs:=[]) (by kernel_rfl) (by kernel_rfl) trivial
  | true =>
   rw[hv,ha,if_neg (by simp)]at h;rw[if_neg (by simp)];have hc:ck w.zones a=none:=by
    cases hc:ck w.zones a with
    | none=>rfl
    | some x=>rw[hc]at h;exact absurd rfl h
   have hk:=nF w.zones a;rw[hc]at hk;rw[hc]
   conv=>whnf
   (refine⟨_,_,tW w hF hv,?_⟩;conv=>whnf)
   refine⟨_,hk,?_⟩
   conv=>whnf
   exact rk (bs:=[]) (by kernel_rfl) (by kernel_rfl) trivial
theorem y6(w:bS)(a:Bs)(hF:kB w):NQ.Fn cx 38 [.agg (cH w), .str a] (.tuple [.d (.slice 1 ((sQ w a).1.map aI)), .d (.int .i64 (sQ w a).2)]) []:=by
 unfold sQ;by_cases h:fD w a=0
 . obtain⟨hv,ha,hc⟩:=oA h;rw[if_pos h];refine aM bf mixed Tryz.func38 (by kernel_rfl) rfl (ag rfl) ?_;conv=>whnf
   (refine⟨_,_,rJ w a hF h,?_⟩;conv=>whnf)
   (refine⟨_,_,BI w.zones a (wM hF hv) ha,?_⟩;conv=>whnf)
   exact af rfl rfl
 . rw[if_neg h];have fB:=pY w a hF h;generalize fD w a=e at *
   have he:(e != 0)=true:=by simpa using h
   refine aM bf mixed Tryz.func38 (by kernel_rfl) rfl (ag rfl) ?_;conv=>whnf
   (refine⟨_,_,fB,?_⟩;conv=>whnf)
   rw[he]
   conv=>whnf
   exact af rfl rfl
set_option maxHeartbeats 1000000 in
theorem rV(w:bS)(s0:Bs)(hF:kB w)(hz:w.zones.length<=20):NQ.Fn cx 40 [.agg (cH w), .str s0] (.tuple [.d (.slice 1 ((mY w s0).1.map aI)), .d (.bool (mY w s0).2.1), .d (.int .i64 (mY w s0).2.2)]) []:=by
 have fV:=px w hF;have fN:=iF s0;unfold mY;refine cV (fun | 8=>[9] | _=>[]) bf mixed Tryz.func40 (by kernel_rfl) rfl (ag rfl) ?_
 conv=>whnf
 (refine⟨_,_,fV,?_⟩;conv=>whnf)
 cases hv:cC w with
 | false =>
  rw[if_pos (by rfl)]
  conv=>whnf
  exact af rfl rfl
 | true =>
 conv=>whnf
 (refine⟨_,_,fN,?_⟩;conv=>whnf)
 cases hs0:aj s0 with
 | false =>
  rw[if_pos (by rfl)]
  conv=>whnf
  exact af rfl rfl
 | true =>
 rw[if_neg (by simp)];have hg:=wM hF hv;have htl:=u9 (zs:=w.zones) hF.few
 conv=>whnf
 (refine⟨_,_,tW w hF hv,?_⟩;conv=>whnf)
 refine⟨Nat×List Bs×Bs,fun x=>⟨[(1, .d (.str x.2.2)),(7, .ptr 7 0),(8, .omap 24),(9, .own 9)],[(7, .box ((c7 w.zones).map .d)),(24, .smap (oO 0 x.2.1)),(9, .row 9 1 (x.2.1.map aI))]⟩,
  fun x=>x.1+x.2.1.length=(fO w.zones).length+2/\x.2.1.Nodup/\aj x.2.2=true/\(∀n∈x.2.1,n=s0\/n∈fO w.zones)/\(x.2.2=s0\/x.2.2∈fO w.zones)/\eV w.zones x.1 x.2.1 x.2.2=kI w.zones s0,fun x=>x.1,
  ⟨((fO w.zones).length+2,[],s0),⟨rfl,List.nodup_nil,hs0,(fun n h=>by cases h), .inl rfl,rfl⟩,(an.lu 9 9 1 9 1 rfl rfl (by decide)).trans (an.keep ⟨⟨rfl,rfl⟩,⟨rfl,rfl⟩,⟨rfl,rfl⟩,⟨rfl,rfl⟩,trivial⟩ ⟨⟨rfl,rfl⟩,⟨rfl,rfl⟩,⟨rfl,rfl⟩,trivial⟩)⟩,fun⟨f,met,s⟩ ⟨hf,hnd,hsv,hin,hs,hinv⟩=>?_⟩
 dsimp only at hf hnd hsv hin hs hinv ⊢;have hml:met.length<=(fO w.zones).length+1:=by
  have:=je hnd (m:=s0::fO w.zones) fun n hn=>by
   rcases hin n hn with e | e
   . exact List.mem_cons.2 (.inl e)
   . exact aX _ e
  simpa using this
 obtain⟨f,rfl⟩:∃g,f=g+1:=⟨f-1,by omega⟩
 conv=>whnf
 rw[uR];cases hm:met.contains s with
 | true =>
  rw[CG hm]at hinv;have hix:met.idxOf s<=met.length:=List.idxOf_le_length
  conv=>whnf
  refine⟨by(show(0:Int)<=((0+met.idxOf s:Nat):Int));exact aJ _,by(show((0+met.idxOf s:Nat):Int)<=((met.map aI).length:Int));rw[ak];omega,Int.le_refl _,?_⟩
  conv=>whnf
  have e:(met.map aI).drop ((0+met.idxOf s:Nat):Int).toNat=(met.drop (met.idxOf s)).map aI:=by
   rw[Nat.zero_add,Int.toNat_natCast,List.map_drop]
  rw[e];have e2:((met.drop (met.idxOf s)).map aI).take (((met.map aI).length:Int).toNat-((0+met.idxOf s:Nat):Int).toNat)=(met.drop (met.idxOf s)).map aI :=
   List.take_of_length_le (by rw[ak,List.length_drop,ak];omega)
  rw[e2]
  (refine⟨_,_,CI (met.drop (met.idxOf s)) (by rw[List.length_drop];omega),?_⟩;conv=>whnf)
  refine af rfl ?_;rw[<- hinv];rfl
 | false =>
  conv=>whnf
  refine⟨by(show(met.map aI).length+1<=_);simp;omega,by(show((met.map aI).length+1)*16<=_);simp;omega,?_⟩
  conv=>whnf
  (refine⟨_,_,E9 w.zones ⟨s,1⟩ hg (xg hsv),?_⟩;conv=>whnf)
  cases hl:gE w.zones s with
  | none =>
   rw[Av hm hl]at hinv;cases hok:(cq w.zones ⟨s,1⟩).2 with
   | false =>
    conv=>whnf
    refine af rfl ?_;rw[<- hinv];rfl
   | true =>
    have hk:((cq w.zones ⟨s,1⟩).1.kind != 3)=true:=by
     unfold gE at hl;rw[hok,aC]at hl;split at hl
     . cases hl
     . rename_i h;simpa [bne] using h
    conv=>whnf
    rw[hk]
    conv=>whnf
    refine af rfl ?_;rw[<- hinv];rfl
  | some n =>
   rw[Aw hm hl]at hinv;obtain⟨hnv,hnt,a,t,R,d,h1,h2,h3,h4,h5⟩:=qd hg hsv hl;rw[h1];have hk:(a.kind != 3)=false:=by rw[h2];rfl
   conv=>whnf
   rw[hk]
   conv=>whnf
   rw[h3];refine⟨by decide,au t,rfl,?_⟩
   conv=>whnf
   refine⟨by decide,b5 d,(by rw[h4];rfl:(t.set.data.map b5)[(0:Int).toNat]? =some (b5 d)),?_⟩
   conv=>whnf
   have hsn:s ∉ met:=fun e=>by rw[dm.2 e]at hm;cases hm
   refine⟨(f,met++[s],n),⟨by simp;omega,?_,hnv,fun x hx=>?_, .inr hnt,hinv⟩,by(show f<f+1;omega),an.keep ⟨⟨by rw[h5];rfl,rfl⟩,⟨rfl,rfl⟩,⟨rfl,rfl⟩,⟨rfl,rfl⟩,trivial⟩ ⟨⟨rfl,rfl⟩,⟨?_,rfl⟩,⟨?_,rfl⟩,trivial⟩⟩
   . rw[List.nodup_append];exact⟨hnd,by simp,fun x hx y hy=>by rw[List.mem_singleton]at hy;subst hy;exact fun e=>hsn (e ▸ hx)⟩
   . rcases List.mem_append.1 hx with hx | hx
     . exact hin x hx
     . rw[List.mem_singleton]at hx;rw[hx];exact hs
   . have:=xe (i:=0) hm;rw[Nat.zero_add]at this;rw[<- this,show met.length=(met.map aI).length from(ak _).symm];rfl
   . rw[List.map_append];rfl
set_option maxHeartbeats 2000000 in
theorem zH(w:bS)(hF:kB w):NQ.Fn cx 32 [.agg (cH w)] (.tuple [.d (.slice 1 ((tI w).1.map aI)), .d (.int .i64 (tI w).2)]) []:=by
 show NQ.Fn cxZ _ _ _ _
 have fV:=px w hF;unfold tI;refine sw (fun | 10=>[19] | 12=>[44444] | 13=>[88888] | _=>[]) tyZ qg Tryz.func32 (by kernel_rfl) rfl (ag rfl) ?_
 conv=>whnf
 (refine⟨_,_,fV,?_⟩;conv=>whnf)
 cases hv:cC w with
 | false =>
  rw[if_neg (by simp)]
  conv=>whnf
  exact af rfl rfl
 | true =>
 rw[if_pos rfl];have hg:=wM hF hv;have hzl:=hF.zones;have hal:=nH w.zones;have hav:∀a∈aU w.zones,aj a=true:=fun a ha=>pb hg ((jQ w.zones a).2 (nT.1 ha))
 conv=>whnf
 (refine⟨_,_,tW w hF hv,?_⟩;conv=>whnf)
 refine ⟨Nat, fun k => ⟨[(4, .ptr 4 0), (5, .ptr 5 0), (21, .d (.slice 1 ((aU w.zones).map aI))), (22, .d (.int .i64 (((aU w.zones).map aI).length : Int))), (23, .d (.int .i64 k))],
     [(4, .box ((c7 w.zones).map .d)),(5, .box [.omap 19]),(19, .smap (lU w.zones ((aU w.zones).take k)))]⟩,fun k=>k<=(aU w.zones).length,fun k=>(aU w.zones).length-k,
  ⟨0,Nat.zero_le _,an.keep ⟨⟨rfl,rfl⟩,⟨rfl,rfl⟩,⟨rfl,rfl⟩,⟨rfl,rfl⟩,⟨rfl,rfl⟩,trivial⟩ ⟨⟨rfl,rfl⟩,⟨rfl,rfl⟩,⟨rfl,rfl⟩,trivial⟩⟩,fun k hk=>?_⟩
 dsimp only at hk ⊢
 conv=>whnf
 refine ae (fun h1=>?_) (fun h1=>?_) <;> (rw[h1];conv=>whnf)
 . have hlt:k<(aU w.zones).length:=by simpa using h1
   obtain⟨a,ha⟩:∃a,(aU w.zones)[k]? =some a:=⟨_,ah hlt⟩
   have ham:=ao ha;have hnew:((aU w.zones).take k).contains a=false:=by
    rw[Bool.eq_false_iff];intro e;obtain⟨j,hj⟩:=bV (dm.1 e);have hjl:=(aq.1 hj).1;rw[List.length_take]at hjl;rw[List.getElem?_take_of_lt (by omega)]at hj;have:=sR (AB w.zones) hj ha;omega
   refine⟨aJ k,aI a,aT ha,?_⟩
   conv=>whnf
   (refine⟨(by kernel_rfl:bA _ _=true),?_⟩;conv=>whnf)
   (refine⟨_,_,Mu w.zones a hg (hav a ham),?_⟩;conv=>whnf)
   refine⟨k+1,hlt,by(show(aU w.zones).length-(k+1)<(aU w.zones).length-k;omega),an.keep ⟨⟨rfl,rfl⟩,⟨rfl,rfl⟩,⟨rfl,rfl⟩,⟨rfl,rfl⟩,⟨ar (by omega),rfl⟩,trivial⟩ ⟨⟨rfl,rfl⟩,⟨rfl,rfl⟩,⟨?_,rfl⟩,trivial⟩⟩;rw[bw ha, <- xl w.zones hnew];rfl
 . obtain rfl:k=(aU w.zones).length:=by simp at h1;omega
   rw[List.take_length];refine⟨⟨[(4, .ptr 100004 0),(5, .ptr 100005 0),(8, .ptr 100008 0),(9, .ptr 100009 0)],hG w.zones []⟩,(kT.ren [4,5,8,9] (by kernel_rfl)).trans (an.zero (an.keep ⟨⟨(by kernel_rfl),(by kernel_rfl)⟩,⟨(by kernel_rfl),(by kernel_rfl)⟩,⟨(by kernel_rfl),(by kernel_rfl)⟩,⟨(by kernel_rfl),(by kernel_rfl)⟩,trivial⟩ ⟨⟨(by kernel_rfl),(by kernel_rfl)⟩,⟨(by kernel_rfl),(by kernel_rfl)⟩,⟨(by kernel_rfl),(by kernel_rfl)⟩,⟨(by kernel_rfl),(by kernel_rfl)⟩,⟨(by kernel_rfl),(by kernel_rfl)⟩,trivial⟩)),?_⟩
   conv=>whnf
   refine⟨List Bs,fun r=>⟨[(4, .ptr 100004 0),(8, .ptr 100008 0),(10, .fn 81 [] [.ptr 100004 0, .ptr 100008 0, .ptr 100005 0, .ptr 100009 0])],hG w.zones r⟩,
    fun r=>NP.Reach w.zones r/\ ∃k,sW w.zones k r=lT w.zones/\(aU w.zones).length<k+r.length,fun r=>(aU w.zones).length+1-r.length,
    ⟨[],⟨NP.Reach.nil _,(aU w.zones).length+1,rfl,by simp⟩,an.keep ⟨⟨rfl,rfl⟩,⟨rfl,rfl⟩,⟨rfl,rfl⟩,trivial⟩ ⟨⟨rfl,rfl⟩,⟨rfl,rfl⟩,⟨rfl,rfl⟩,⟨rfl,rfl⟩,⟨rfl,rfl⟩,trivial⟩⟩,fun r ⟨hR,k,hk,hkl⟩=>?_⟩
   conv=>whnf
   refine⟨[],_,_,JY w.zones r hg hzl,⟨⟨by kernel_rfl,by kernel_rfl⟩,by kernel_rfl,by kernel_rfl,by kernel_rfl⟩,?_⟩
   conv=>whnf
   refine ae (fun h2=>?_) (fun h2=>?_) <;> (rw[h2];conv=>whnf)
   . have hlt:r.length<(iu w.zones r).length:=of_decide_eq_true h2;have hlen:=hR.next.len
     have hlen' :=hR.len;obtain⟨k,rfl⟩:∃j,k=j+1:=⟨k-1,by
      have:0<k:=by
       rcases Nat.eq_zero_or_pos k with e | e
       . omega
       . exact e
      omega⟩
     exact⟨iu w.zones r,⟨hR.next,k,hk,by omega⟩,by(show(aU w.zones).length+1-(iu w.zones r).length<(aU w.zones).length+1-r.length;omega),an.keep ⟨⟨rfl,rfl⟩,⟨rfl,rfl⟩,⟨rfl,rfl⟩,trivial⟩ ⟨⟨rfl,rfl⟩,⟨rfl,rfl⟩,⟨rfl,rfl⟩,⟨rfl,rfl⟩,⟨rfl,rfl⟩,trivial⟩⟩
   . have hnot:¬r.length<(iu w.zones r).length:=of_decide_eq_false h2;have hle:r.length<=(iu w.zones r).length:=sE w.zones (aU w.zones) r;have hfix:iu w.zones r=r:=(yS (by show(iu w.zones r).length=r.length;omega)).1;rw[xi hfix]at hk;rw[hfix,hk];have hfl:∀j,(((aU w.zones).take j).filter fun a=> !(lT w.zones).contains a).length<=1000:=fun j=>by
      have:=List.length_filter_le (fun a=> !(lT w.zones).contains a) ((aU w.zones).take j);have:=List.length_take_le' j (aU w.zones);omega
     refine ⟨Nat, fun j => ⟨[(8, .ptr 100008 0), (11, .own 11), (39, .d (.slice 1 ((aU w.zones).map aI))), (40, .d (.int .i64 (((aU w.zones).map aI).length : Int))), (41, .d (.int .i64 j))],
         [(100008, .box [.omap 33]),(33, .smap (mO (lT w.zones))),(11, .row 9 1 ((((aU w.zones).take j).filter fun a=> !(lT w.zones).contains a).map aI))]⟩,fun j=>j<=(aU w.zones).length,fun j=>(aU w.zones).length-j,
      ⟨0,Nat.zero_le _,(an.lu 11 11 1 9 1 rfl rfl (by decide)).trans (an.keep ⟨⟨rfl,rfl⟩,⟨rfl,rfl⟩,⟨rfl,rfl⟩,⟨rfl,rfl⟩,⟨rfl,rfl⟩,trivial⟩ ⟨⟨rfl,rfl⟩,⟨rfl,rfl⟩,⟨rfl,rfl⟩,trivial⟩)⟩,fun j hj=>?_⟩
     dsimp only at hj ⊢
     conv=>whnf
     refine ae (fun h3=>?_) (fun h3=>?_) <;> (rw[h3];conv=>whnf)
     . have hlt:j<(aU w.zones).length:=by simpa using h3
       obtain⟨a,ha⟩:∃a,(aU w.zones)[j]? =some a:=⟨_,ah hlt⟩
       have hf:=hfl j;refine⟨aJ j,aI a,aT ha,?_⟩
       conv=>whnf
       rw[lW];cases hc:(lT w.zones).contains a with
       | true =>
        conv=>whnf
        refine⟨j+1,hlt,by(show(aU w.zones).length-(j+1)<(aU w.zones).length-j;omega),an.keep ⟨⟨rfl,rfl⟩,⟨rfl,rfl⟩,⟨rfl,rfl⟩,⟨rfl,rfl⟩,⟨ar (by omega),rfl⟩,trivial⟩ ⟨⟨rfl,rfl⟩,⟨rfl,rfl⟩,⟨?_,rfl⟩,trivial⟩⟩;rw[bw ha,List.filter_append,List.filter_cons_of_neg (by rw[hc];simp),List.filter_nil,List.append_nil];rfl
       | false =>
        conv=>whnf
        refine⟨by(show((((aU w.zones).take j).filter fun a=> !(lT w.zones).contains a).map aI).length+1<=_);rw[ak];omega,by(show(((((aU w.zones).take j).filter fun a=> !(lT w.zones).contains a).map aI).length+1)*16<=_);rw[ak];omega,?_⟩
        conv=>whnf
        refine⟨j+1,hlt,by(show(aU w.zones).length-(j+1)<(aU w.zones).length-j;omega),an.keep ⟨⟨rfl,rfl⟩,⟨rfl,rfl⟩,⟨rfl,rfl⟩,⟨rfl,rfl⟩,⟨ar (by omega),rfl⟩,trivial⟩ ⟨⟨rfl,rfl⟩,⟨rfl,rfl⟩,⟨?_,rfl⟩,trivial⟩⟩;rw[bw ha,List.filter_append,List.filter_cons_of_pos (by rw[hc];rfl),List.filter_nil,List.map_append];rfl
     . obtain rfl:j=(aU w.zones).length:=by simp at h3;omega
       rw[List.take_length];exact af rfl rfl
end Go.Proofs.YtcecidfnchcagaaGreatDoor
namespace NP
open NQ Go
def beM(be:List (Bs×Bs)):List (Bs×D):=be.map fun p=>(p.1, .str p.2)
theorem vo(n:Bs):∀be:List (Bs×Bs),cB n (beM be)=if lV be n=true then some (.str (nW be n))else none
 | []=>rfl
 | (b,v)::t=>by
  show(if n=b then _ else cB n (beM t))=_
  rw[vo n t];unfold lV nW;rw[List.any_cons,List.find?_cons];by_cases h:n=b
  . subst h;simp
  . have:(b==n)=false:=by simpa using fun e:b=n=>h e.symm
    rw[if_neg h,this,ax]
theorem DM{n a:Bs}:∀{be:List (Bs×Bs)},lV be n=false->cG n (.str a) (beM be)=beM (be++[(n,a)])
 | [],_=>rfl
 | (b,v)::t,h=>by
  have h:((b==n)||lV t n)=false:=h;rw[Bool.or_eq_false_iff]at h;have hne:¬n=b:=fun e=>by have:=h.1;rw[e]at this;simp at this
  show(if n=b then _ else(b,_)::cG n _ (beM t))=_
  rw[if_neg hne,DM h.2];rfl
theorem pn{zone a:Bs}:∀(t qu:List Bs) (be:List (Bs×Bs)),be.length<=(di zone a t qu be).2.2.length/\qu.length<=(di zone a t qu be).2.1.length
 | [],qu,be=>⟨Nat.le_refl _,Nat.le_refl _⟩
 | n::t,qu,be=>by
  unfold di;split
  . exact⟨Nat.le_refl _,Nat.le_refl _⟩
  . split
    . exact pn t qu be
    . have:=pn (zone:=zone) (a:=a) t (qu++[n]) (be++[(n,a)]);simp at this;omega
theorem Jc{zs:List ai}(hg:dq zs){zone a:Bs}(hv:aj zone=true){f:Nat}{P qu:List Bs}{be:List (Bs×Bs)}{ds:List Nat}(h:iw zs zone P (a::qu) be ds)(hf:2*((aU zs).length-be.length)+(a::qu).length<f+1) :
 aj a=true/\(∀n∈bE zs a,n∈aU zs)/\(di zone a (bE zs a) qu be).2.2.length<=(aU zs).length/\(di zone a (bE zs a) qu be).2.1.length<=(aU zs).length+1 /\
  ((di zone a (bE zs a) qu be).1=true-> ∃ds',iw zs zone P (a::(di zone a (bE zs a) qu be).2.1) (di zone a (bE zs a) qu be).2.2 ds') /\
  ((di zone a (bE zs a) qu be).1=false-> ∃ds',iw zs zone (P++[a]) (di zone a (bE zs a) qu be).2.1 (di zone a (bE zs a) qu be).2.2 ds' /\2*((aU zs).length-(di zone a (bE zs a) qu be).2.2.length)+(di zone a (bE zs a) qu be).2.1.length<f):=by
 have ham:a∈zone::be.map (·.1):=by rw[<- h.all];simp
 have hav:aj a=true:=by
  rcases List.mem_cons.1 ham with rfl | hm
  . exact hv
  . obtain⟨p,hp,rfl⟩:=List.mem_map.1 hm;exact pb hg ((jQ zs _).2 (nT.1 (h.keys p hp)))
 have hkeys:∀n∈bE zs a,n∈aU zs:=fun n hn=>nT.2 ((jQ zs n).1 (H4 hg hav n hn))
 obtain⟨ds',i1,i2,i3,i4,i5,i6⟩:=yl hkeys (bE zs a) qu be ds h fun n hn=>hn
 have h1:=i1.AK;have h2:=h.AK;have h3:=pn (zone:=zone) (a:=a) (bE zs a) qu be;have h4:=congrArg List.length i1.all;simp only[List.length_append,List.length_cons,ak]at h4;refine⟨hav,hkeys,h1,by omega,fun _=>⟨ds',i1⟩,fun hs=>?_⟩;obtain⟨j1,j2⟩:=i3 hs;refine⟨ds',i1.next j1 j2,?_⟩;simp at hf;omega
theorem Ib{zs:List ai}{zone last:Bs}{P Q:List Bs}{be:List (Bs×Bs)}{ds:List Nat}(h:iw zs zone P Q be ds){i:Nat}(hi:(zone::be.map (·.1))[i]? =some last)(hz:last ≠ zone) :
 lV be last=true/\ ∃i',i' <i/\(zone::be.map (·.1))[i']? =some (nW be last):=by
 obtain⟨j,rfl⟩:∃j,i=j+1:=by
  rcases i with _ | j
  . cases hi;exact absurd rfl hz
  . exact⟨j,rfl⟩
 have hi' :(be.map (·.1))[j]? =some last:=by simpa using hi
 refine⟨vW.2 (ao hi'),?_⟩;rw[aR]at hi';cases hb:be[j]? with
 | none=>rw[hb]at hi';cases hi'
 | some pr =>
  obtain⟨n,a⟩:=pr;rw[hb]at hi';have:n=last:=by simpa using hi'
  subst this;obtain⟨hm,i',d,h1,h2,h3,h4⟩:=h.par j n a hb;rw[Mp h hb];exact⟨i',by omega,h2⟩
end NP
namespace Go.Proofs.YtcecidfnchcagaaGreatDoor
open NQ Go NP Go.RowKit
noncomputable def cxQ:Cx:={cx with chg:=fun g=>match Nat.beq g 90 with | true=>2 | false=>cx.chg g}
theorem tyQ:bu cxQ:=bf
theorem HQ:cxQ.P.follows .mixedOrders=true:=mixed
def inC:Code->Code
 | .scope c=>c
 | c=>c
def fzQ:Nat->List Nat
 | 9=>[88888]
 | 18=>[88888]
 | 20=>[55555]
 | _=>[]
theorem Hw(zs:List ai)(zone:Bs)(x:Bs×List (Bs×Bs)){P Q:List Bs}{ds:List Nat}(h:iw zs zone P Q x.2 ds)(hx:x.1∈zone::x.2.map (·.1))(hl:x.2.length<=10000)(st:St)
 (hs:an cxQ st ⟨[(1, .d (.str zone)),(9, .omap 28),(10, .d (.str x.1)),(11, .d (.bool true))],[(28, .smap (beM x.2))]⟩) :
 vc cxQ Tryz.f37.ntmps fzQ (n9 7 (inC (n9 1 ((Tryz.f37.body).getD .skip)))) (fnQ cxQ Tryz.f37.results.toList (.tuple [.d (.slice 1 ((x.1::pj x.2 zone (x.2.length+1) x.1).reverse.map aI)), .d (.bool true), .d (.int .i64 0)]) []) st:=by
 obtain⟨last0,be⟩:=x;dsimp only at h hx hl hs ⊢;obtain⟨i0,hi0⟩:=bV hx;have hi0l:i0<be.length+1:=by have:=(aq.1 hi0).1;simpa using this
 conv=>whnf
 refine⟨_,hs,?_⟩
 conv=>whnf
 refine⟨Nat×Bs×List Bs,fun y=>⟨[(1, .d (.str zone)),(9, .omap 28),(10, .d (.str y.2.1)),(18, .own 70)],[(28, .smap (beM be)),(70, .row 9 1 (y.2.2.map aI))]⟩,
  fun y=>y.2.2++pj be zone y.1 y.2.1=last0::pj be zone (be.length+1) last0/\(∃i,i<y.1/\(zone::be.map (·.1))[i]? =some y.2.1)/\y.1+y.2.2.length=be.length+2,fun y=>y.1,
  ⟨(be.length+1,last0,[last0]),⟨rfl,⟨i0,hi0l,hi0⟩,rfl⟩,an.keep ⟨⟨rfl,rfl⟩,⟨rfl,rfl⟩,⟨rfl,rfl⟩,⟨rfl,rfl⟩,trivial⟩ ⟨⟨rfl,rfl⟩,⟨rfl,rfl⟩,trivial⟩⟩,fun⟨f,last,l⟩ ⟨hinv,⟨i,hi,hil⟩,hfl⟩=>?_⟩
 dsimp only at hinv hi hil hfl ⊢;obtain⟨f,rfl⟩:∃g,f=g+1:=⟨f-1,by omega⟩
 rw[pj]at hinv
 conv=>whnf
 refine ae (fun h1=>?_) (fun h1=>?_) <;> (rw[h1];conv=>whnf)
 . have hne:last ≠ zone:=by simpa using h1
   rw[if_neg hne]at hinv;obtain⟨p1,i',p2,p3⟩:=Ib h hil hne;rw[vo,p1]
   conv=>whnf
   refine⟨by(show(l.map aI).length+1<=_);simp;omega,by(show((l.map aI).length+1)*16<=_);simp;omega,?_⟩
   conv=>whnf
   refine⟨(f,nW be last,l++[nW be last]),⟨by rw[<- hinv];simp,⟨i',by omega,p3⟩,by simp;omega⟩,by(show f<f+1;omega),an.keep ⟨⟨rfl,rfl⟩,⟨rfl,rfl⟩,⟨rfl,rfl⟩,⟨rfl,rfl⟩,trivial⟩ ⟨⟨rfl,rfl⟩,⟨?_,rfl⟩,trivial⟩⟩;rw[List.map_append];rfl
 . have hz:last=zone:=by simpa using h1
   rw[if_pos hz,List.append_nil]at hinv;rw[<- hinv];refine⟨_,gV (cx' :=cxQ) rfl rfl (Dr l (by omega) _),?_⟩
   conv=>whnf
   exact af rfl rfl
set_option maxHeartbeats 2000000 in
theorem Hy(w:bS)(zone:Bs)(hF:kB w):NQ.Fn cx 37 [.agg (cH w), .str zone] (.tuple [.d (.slice 1 ((sM w zone).1.map aI)), .d (.bool (sM w zone).2.1), .d (.int .i64 (sM w zone).2.2)]) []:=by
 show NQ.Fn cxQ _ _ _ _
 unfold sM;by_cases h0:fD w zone=0
 case neg =>
  rw[if_neg h0];have fB:=pY w zone hF h0;generalize fD w zone=e at *
  have he:(e != 0)=true:=by simpa using h0
  refine cV fzQ tyQ HQ Tryz.func37 (by kernel_rfl) rfl (ag rfl) ?_
  conv=>whnf
  (refine⟨_,_,fB,?_⟩;conv=>whnf)
  rw[he]
  conv=>whnf
  exact af rfl rfl
 obtain⟨hv,hzv,hzc⟩:=oA h0;rw[if_pos h0];have hg:=wM hF hv;have hal:=nH w.zones;have hzl:=hF.zones;have hend:=Hw w.zones zone;have hF0:BD w.zones zone=match xO w.zones zone (2*(aU w.zones).length+2) [zone] []with | none=>[] | some x=>(x.1::pj x.2 zone (x.2.length+1) x.1).reverse:=rfl
 rw[hF0];refine cV fzQ tyQ HQ Tryz.func37 (by kernel_rfl) rfl (ag rfl) ?_
 conv=>whnf
 (refine⟨_,_,rJ w zone hF h0,?_⟩;conv=>whnf)
 refine⟨Nat×List Bs×List (Bs×Bs),fun x=>⟨[(1, .d (.str zone)),(7, .ptr 7 0),(9, .omap 28),(10, .d (.str [])),(11, .d (.bool false)),(12, .own 30)],[(7, .box ((c7 w.zones).map .d)),(28, .smap (beM x.2.2)),(30, .tail 9 1 (x.2.1.map aI))]⟩,
  fun x=>(∃P ds,iw w.zones zone P x.2.1 x.2.2 ds)/\2*((aU w.zones).length-x.2.2.length)+x.2.1.length<x.1/\xO w.zones zone x.1 x.2.1 x.2.2=xO w.zones zone (2*(aU w.zones).length+2) [zone] [],fun x=>x.1,
  ⟨(2*(aU w.zones).length+2,[zone],[]),⟨⟨[],[0],iw.start _ _⟩,by simp,rfl⟩,(an.tail 30 9 1 [aI zone] (by kernel_rfl)).trans (an.keep ⟨⟨rfl,rfl⟩,⟨rfl,rfl⟩,⟨rfl,rfl⟩,⟨rfl,rfl⟩,⟨rfl,rfl⟩,⟨rfl,rfl⟩,trivial⟩ ⟨⟨rfl,rfl⟩,⟨rfl,rfl⟩,⟨rfl,rfl⟩,trivial⟩)⟩,fun⟨f,qu,be⟩ ⟨⟨P,ds,hB⟩,hf,hinv⟩=>?_⟩
 dsimp only at hB hf hinv ⊢
 conv=>whnf
 cases qu with
 | nil =>
  obtain⟨f,rfl⟩:∃g,f=g+1:=⟨f-1,by omega⟩
  rw[<- hinv]
  conv=>whnf
  refine⟨_,an.refl _,?_⟩
  conv=>whnf
  exact af rfl rfl
 | cons a qu =>
  obtain⟨f,rfl⟩:∃g,f=g+1:=⟨f-1,by omega⟩
  obtain⟨hav,hkeys,b1,b2,hyes,hno⟩:=Jc hg hzv hB hf;have hnl:(bE w.zones a).length<=(aU w.zones).length:=je (Dg w.zones a) hkeys;rw[xO]at hinv;have hpos:decide ((((a::qu).map aI).length:Int)>0)=true:=decide_eq_true (by simp);rw[show decide ((((a::qu).map aI).length:Int)>0)=true from hpos]
  conv=>whnf
  refine⟨by decide,by(show 0<((a::qu).map aI).length);simp,?_⟩
  conv=>whnf
  refine⟨aI a,rfl,?_⟩
  conv=>whnf
  refine⟨⟨by decide,by(show 1<=((a::qu).map aI).length);simp⟩,?_⟩
  conv=>whnf
  (refine⟨_,_,BI w.zones a hg hav,?_⟩;conv=>whnf)
  generalize hS:di zone a (bE w.zones a) qu be=S at *
  refine⟨Nat×List Bs×List (Bs×Bs),fun x=>⟨[(1, .d (.str zone)),(7, .ptr 7 0),(9, .omap 28),(10, .d (.str [])),(11, .d (.bool false)),(12, .own 30),(13, .d (.str a)),(41, .d (.slice 1 ((bE w.zones a).map aI))),(42, .d (.int .i64 (((bE w.zones a).map aI).length:Int))),(43, .d (.int .i64 x.1))],[(7, .box ((c7 w.zones).map .d)),(28, .smap (beM x.2.2)),(30, .tail 9 1 (x.2.1.map aI))]⟩,
   fun x=>x.1<=(bE w.zones a).length/\di zone a ((bE w.zones a).drop x.1) x.2.1 x.2.2=S,fun x=>(bE w.zones a).length-x.1,
   ⟨(0,qu,be),⟨Nat.zero_le _,hS⟩,an.keep ⟨⟨rfl,rfl⟩,⟨rfl,rfl⟩,⟨rfl,rfl⟩,⟨rfl,rfl⟩,⟨rfl,rfl⟩,⟨rfl,rfl⟩,⟨rfl,rfl⟩,⟨rfl,rfl⟩,⟨rfl,rfl⟩,⟨rfl,rfl⟩,trivial⟩ ⟨⟨rfl,rfl⟩,⟨rfl,rfl⟩,⟨rfl,rfl⟩,trivial⟩⟩,fun⟨k,qu',be'⟩ ⟨hk,hsc⟩=>?_⟩
  dsimp only at hk hsc ⊢;have hgr:=pn (zone:=zone) (a:=a) ((bE w.zones a).drop k) qu' be';rw[hsc]at hgr
  conv=>whnf
  refine ae (fun h1=>?_) (fun h1=>?_) <;> (rw[h1];conv=>whnf)
  . have hlt:k<(bE w.zones a).length:=by simpa using h1
    obtain⟨n,hn⟩:∃n,(bE w.zones a)[k]? =some n:=⟨_,ah hlt⟩
    rw[drop_cons hn,di]at hsc;refine⟨aJ k,aI n,aT hn,?_⟩
    conv=>whnf
    refine ae (fun h2=>?_) (fun h2=>?_) <;> (rw[h2];conv=>whnf)
    . have hnz:n=zone:=by simpa using h2
      rw[if_pos hnz]at hsc;rw[<- hsc]at hyes hinv;obtain⟨ds',hB'⟩:=hyes rfl;rw[if_pos rfl]at hinv;rw[<- hinv];have hlen:=hB'.AK;have hpl:decide (0<(a::pj be' zone (be'.length+1) a).reverse.length)=true:=decide_eq_true (by simp);dsimp only;rw[hpl];exact hend (a,be') hB' (by rw[<- hB'.all];simp) (by show be'.length<=10000;omega) _ (an.keep ⟨⟨rfl,rfl⟩,⟨rfl,rfl⟩,⟨rfl,rfl⟩,⟨rfl,rfl⟩,trivial⟩ ⟨⟨rfl,rfl⟩,trivial⟩)
    . have hnz:n ≠ zone:=by simpa using h2
      rw[if_neg hnz]at hsc;rw[vo];cases hse:lV be' n with
      | true =>
       rw[if_pos hse]at hsc
       conv=>whnf
       exact⟨(k+1,qu',be'),⟨hlt,hsc⟩,by(show(bE w.zones a).length-(k+1)<(bE w.zones a).length-k;omega),an.keep ⟨⟨rfl,rfl⟩,⟨rfl,rfl⟩,⟨rfl,rfl⟩,⟨rfl,rfl⟩,⟨rfl,rfl⟩,⟨rfl,rfl⟩,⟨rfl,rfl⟩,⟨rfl,rfl⟩,⟨rfl,rfl⟩,⟨ar (by omega),rfl⟩,trivial⟩ ⟨⟨rfl,rfl⟩,⟨rfl,rfl⟩,⟨rfl,rfl⟩,trivial⟩⟩
      | false =>
       rw[if_neg (by rw[hse];simp)]at hsc
       conv=>whnf
       refine⟨by(show(qu'.map aI).length+1<=_);simp;omega,by(show((qu'.map aI).length+1)*16<=_);simp;omega,?_⟩
       conv=>whnf
       refine⟨(k+1,qu' ++[n],be' ++[(n,a)]),⟨hlt,hsc⟩,by(show(bE w.zones a).length-(k+1)<(bE w.zones a).length-k;omega),an.keep ⟨⟨rfl,rfl⟩,⟨rfl,rfl⟩,⟨rfl,rfl⟩,⟨rfl,rfl⟩,⟨rfl,rfl⟩,⟨rfl,rfl⟩,⟨rfl,rfl⟩,⟨rfl,rfl⟩,⟨rfl,rfl⟩,⟨ar (by omega),rfl⟩,trivial⟩ ⟨⟨rfl,rfl⟩,⟨?_,rfl⟩,⟨?_,rfl⟩,trivial⟩⟩
       . rw[<- DM hse];rfl
       . rw[List.map_append];rfl
  . obtain rfl:k=(bE w.zones a).length:=by simp at h1;omega
    rw[List.drop_length]at hsc;rw[<- hsc]at hno hinv;obtain⟨ds',hB',hf'⟩:=hno rfl;rw[if_neg (by simp[di])]at hinv;exact⟨(f,qu',be'),⟨⟨P++[a],ds',hB'⟩,hf',hinv⟩,by(show f<f+1;omega),an.keep ⟨⟨rfl,rfl⟩,⟨rfl,rfl⟩,⟨rfl,rfl⟩,⟨rfl,rfl⟩,⟨rfl,rfl⟩,⟨rfl,rfl⟩,trivial⟩ ⟨⟨rfl,rfl⟩,⟨rfl,rfl⟩,⟨rfl,rfl⟩,trivial⟩⟩
end Go.Proofs.YtcecidfnchcagaaGreatDoor
namespace NP
open NQ Go
def uh(n:Bs)(t:Int)(to:Bs):fI:=⟨n,t,0,[tx to]⟩
def Nf(a:Bs):fI:=⟨a,4,0,[⟨[],1,0⟩]⟩
def gF(a host:Bs)(l:List fI):List fI:=uh a 2 host::Nf a::l
def sgn(s:fI):Signed:=⟨s,[]⟩
def NJ(a host:Bs)(l:List fI):aP:=⟨a,(gF a host l).map sgn⟩
theorem yN{w:bS}(h:o6 w=true):kB w/\w.hosts.length<=70/\w.zones.length<=12:=by
 unfold o6 at h;simp only[aN,decide_eq_true_eq]at h;obtain⟨h1,h2,_,_⟩:=JM h.1;exact⟨h1,h2,by omega⟩
end NP
namespace Go.Proofs.YtcecidfnchcagaaGreatDoor
open NQ Go NP Go.RowKit
noncomputable def cxT:Cx:={cx with bld:=[11]}
theorem tyT:bu cxT:=bf
theorem MY:cxT.P.follows .mixedOrders=true:=mixed
noncomputable def JA:Cx:={cx with bld:=[17]}
theorem NX:bu JA:=bf
theorem Me:JA.P.follows .mixedOrders=true:=mixed
noncomputable def JB:Cx:={cx with bld:=[5,9,12,19,21,23]}
theorem NY:bu JB:=bf
theorem Mf:JB.P.follows .mixedOrders=true:=mixed
noncomputable def JC:Cx:={cx with bld:=[96,106,111,116]}
theorem NZ:bu JC:=bf
theorem Mg:JC.P.follows .mixedOrders=true:=mixed
theorem nx(n:Bs)(t:Int)(to:Bs):NQ.Fn cx 139 [.str n, .int .i64 t, .str to] (.agg ((jB (uh n t to)).map .d)) []:=by
 show NQ.Fn cxT _ _ _ _
 refine cV (fun _=>[]) tyT MY Tryz.func139 (by kernel_rfl) rfl (ag rfl) ?_
 conv=>whnf
 exact af rfl rfl
theorem tG(a host:Bs)(l:List fI)(hl:l.length<=1000):NQ.Fn cx 138 [.str a, .str host, .slice 4 (l.map jB)] (.agg ((bo (NJ a host l)).map .d)) []:=by
 show NQ.Fn JA _ _ _ _
 refine cV (fun | 7=>[200] | _=>[]) NX Me Tryz.func138 (by kernel_rfl) rfl (ag rfl) ?_
 conv=>whnf
 (refine⟨_,_,nx a 2 host,?_⟩;conv=>whnf)
 refine⟨by(show 2+(l.map jB).length<=_;simp;omega),by(show(2+(l.map jB).length)*56<=_;simp;omega),?_⟩
 conv=>whnf
 have hL:(gF a host l).length=2+l.length:=by unfold gF;simp;omega
 refine ⟨Nat, fun k => ⟨[(6, .ptr 6 0), (7, .ptr 7 0), (21, .d (.slice 4 ((gF a host l).map jB))), (22, .d (.int .i64 (((gF a host l).map jB).length : Int))), (23, .d (.int .i64 k))],
     [(6, .box [.d (.str []), .nil 5]),(7, .box [.d (.str a), .own 200]),(200, .row 79 5 ((((gF a host l).take k).map sgn).map au))]⟩,fun k=>k<=(gF a host l).length,fun k=>(gF a host l).length-k,
  ⟨0,Nat.zero_le _,((an.NS [19]).trans (an.rb 7 1 200 5 [.d (.str a), .nil 5] 79 5 (by kernel_rfl) rfl (by kernel_rfl) (by decide))).trans (an.keep ⟨⟨rfl,rfl⟩,⟨rfl,rfl⟩,⟨by kernel_rfl,rfl⟩,⟨by kernel_rfl,rfl⟩,⟨rfl,rfl⟩,trivial⟩ ⟨⟨rfl,rfl⟩,⟨rfl,rfl⟩,⟨rfl,rfl⟩,trivial⟩)⟩,fun k hk=>?_⟩
 dsimp only at hk ⊢
 conv=>whnf
 refine ae (fun h1=>?_) (fun h1=>?_) <;> (rw[h1];conv=>whnf)
 . have hlt:k<(gF a host l).length:=by
    have:(k:Int)<(((gF a host l).map jB).length:Int):=of_decide_eq_true h1;rw[ak]at this;omega
   obtain⟨s,hs⟩:∃s,(gF a host l)[k]? =some s:=⟨_,ah hlt⟩
   refine⟨aJ k,jB s,aT hs,?_⟩
   conv=>whnf
   have htl:((gF a host l).take k).length=k:=by rw[List.length_take];omega
   refine⟨by(show((((gF a host l).take k).map sgn).map au).length+1<=_;simp;omega),by(show(((((gF a host l).take k).map sgn).map au).length+1)*80<=_;simp;omega),?_⟩
   conv=>whnf
   refine⟨k+1,hlt,by(show(gF a host l).length-(k+1)<(gF a host l).length-k;omega),an.keep ⟨⟨rfl,rfl⟩,⟨rfl,rfl⟩,⟨rfl,rfl⟩,⟨rfl,rfl⟩,⟨ar (by omega),rfl⟩,trivial⟩ ⟨⟨rfl,rfl⟩,⟨rfl,rfl⟩,⟨?_,rfl⟩,trivial⟩⟩;rw[bw hs,List.map_append,List.map_append];rfl
 . obtain rfl:k=(gF a host l).length:=by
    have:¬(k:Int)<(((gF a host l).map jB).length:Int):=of_decide_eq_false h1;rw[ak]at this;omega
   rw[List.take_length];exact af rfl rfl
set_option maxHeartbeats 4000000 in
theorem iz:NQ.Fn cx 76 [] (.agg ((cH exL).map .d)) []:=by
 show NQ.Fn JB _ _ _ _
 have t1:=nx [120] 2 [104,46,121];have t2:=nx [121] 2 [104,46,120];have t3:=nx [108,46,120] 3 [109,46,120];have t4:=nx [109,46,120] 3 [108,46,120];have z1:=tG [46] [97] [uh [120] 2 [104,46,121],uh [121] 2 [104,46,120]] (by decide);have z2:=tG [120] [104,46,121] [uh [108,46,120] 3 [109,46,120],uh [109,46,120] 3 [108,46,120]] (by decide);have z3:=tG [121] [104,46,120] [] (by decide);refine cV (fun | 3=>[66666] | _=>[]) NY Mf Tryz.func76 (by kernel_rfl) rfl (ag rfl) ?_
 conv=>whnf
 (refine⟨_,_,t1,?_⟩;conv=>whnf)
 (refine⟨_,_,t2,?_⟩;conv=>whnf)
 (refine⟨_,_,z1,?_⟩;conv=>whnf)
 (refine⟨_,_,t3,?_⟩;conv=>whnf)
 (refine⟨_,_,t4,?_⟩;conv=>whnf)
 (refine⟨_,_,z2,?_⟩;conv=>whnf)
 (refine⟨(by kernel_rfl:iy _=true),?_⟩;conv=>whnf)
 repeat' (first
  | (refine⟨_,_,z3,?_⟩;conv=>whnf)
  | (exact af rfl rfl)
  | (refine⟨by kernel_rfl,?_⟩;conv=>whnf)
  | (refine⟨?_,?_⟩ <;> (conv=>whnf))
  | fail)
theorem s7(a b:List Bs)(ha:a.length<=100000)(hb:b.length<=100000):NQ.Fn cx 39 [.slice 1 (a.map aI), .slice 1 (b.map aI)] (.d (.bool (ny a b))) []:=by
 refine aM bf mixed Tryz.func39 (by kernel_rfl) rfl (ag rfl) ?_;conv=>whnf
 (refine⟨_,_,KU a b ha hb,?_⟩;conv=>whnf)
 exact af rfl rfl
set_option maxHeartbeats 2000000 in
theorem o8:NQ.Fn cx 30 [] (.d (.bool true)) []:=by
 show NQ.Fn JC _ _ _ _
 have a1:=rV exL [108,46,120] oe (by decide);rw[GY]at a1;have a2:=rV exL [120] oe (by decide);rw[JK]at a2;have n1:=y6 exL [120] oe;rw[G2]at n1;have z1:=zH exL oe;rw[G3]at z1;have l1:=Hy exL [120] oe;rw[GZ]at l1;have n2:=y6 exL [122] oe;rw[MR]at n2;have z2:=zH exN LN;rw[G4]at z2;have s1:=s7 [[108,46,120],[109,46,120]] [[108,46,120],[109,46,120]] (by decide) (by decide);rw[show ny [[108,46,120],[109,46,120]] [[108,46,120],[109,46,120]]=true by decide]at s1;have s2:=s7 [[121]] [[121]] (by decide) (by decide);rw[show ny [[121]] [[121]]=true by decide]at s2
 have s3:=s7 [[120],[121]] [[120],[121]] (by decide) (by decide);rw[show ny [[120],[121]] [[120],[121]]=true by decide]at s3;refine cV (fun _=>[]) NZ Mg Tryz.func30 (by kernel_rfl) rfl (ag rfl) ?_
 conv=>whnf
 (refine⟨_,_,iz,?_⟩;conv=>whnf)
 (refine⟨_,_,a1,?_⟩;conv=>whnf)
 (refine⟨_,_,iz,?_⟩;conv=>whnf)
 (refine⟨_,_,a2,?_⟩;conv=>whnf)
 (refine⟨_,_,iz,?_⟩;conv=>whnf)
 (refine⟨_,_,n1,?_⟩;conv=>whnf)
 (refine⟨_,_,iz,?_⟩;conv=>whnf)
 (refine⟨_,_,z1,?_⟩;conv=>whnf)
 (refine⟨_,_,iz,?_⟩;conv=>whnf)
 (refine⟨_,_,l1,?_⟩;conv=>whnf)
 (refine⟨_,_,iz,?_⟩;conv=>whnf)
 (refine⟨_,_,n2,?_⟩;conv=>whnf)
 (refine⟨_,_,z2,?_⟩;conv=>whnf)
 (refine⟨_,_,s1,?_⟩;conv=>whnf)
 (refine⟨_,_,s2,?_⟩;conv=>whnf)
 (refine⟨_,_,s3,?_⟩;conv=>whnf)
 (refine⟨_,_,s3,?_⟩;conv=>whnf)
 exact af rfl rfl
theorem DC(w:bS):NQ.Fn cx 31 [.agg (cH w)] (.d (.bool (o6 w&&cC w))) []:=by
 refine aM bf mixed Tryz.func31 (by kernel_rfl) rfl (ag rfl) ?_;conv=>whnf
 (refine⟨_,_,G5 w,?_⟩;conv=>whnf)
 cases hf:o6 w with
 | false =>
  conv=>whnf
  exact af rfl rfl
 | true =>
  conv=>whnf
  (refine⟨_,_,Gg w (yN hf).1,?_⟩;conv=>whnf)
  exact af rfl rfl
end Go.Proofs.YtcecidfnchcagaaGreatDoor
namespace NP
open NQ Go
theorem KY{w:bS}(h:(o6 w&&cC w)=true):kB w/\cC w=true/\w.zones.length<=12/\w.hosts.length<=70:=by
 rw[aN]at h;obtain⟨h1,h2,h3⟩:=yN h.1;exact⟨h1,h.2,h3,h2⟩
theorem Gx{zs:List ai}(hg:dq zs){s:Bs}{l:List Bs}(L:EB zs s l)(hz:zs.length<=20):l.length<=100000:=by
 have h1:l.length<=(fO zs).length:=y8 L.nodup fun x hx=>by
  obtain⟨j,hj⟩:=bV hx;have hjl:=(aq.1 hj).1;obtain⟨i,hi,e⟩:∃i,i<l.length/\(i+1) % l.length=j:=by
   rcases Nat.eq_zero_or_pos j with rfl | h
   . exact⟨l.length-1,by omega,by rw[show l.length-1+1=l.length by omega,Nat.mod_self]⟩
   . exact⟨j-1,by omega,by rw[show j-1+1=j by omega,Nat.mod_eq_of_lt hjl]⟩
  obtain⟨n,hn⟩:∃n,l[i]? =some n:=⟨_,ah hi⟩
  have:=L.lead i n hn;rw[e,hj]at this;exact(qd hg (L.valid n (ao hn)) this).2.1
 have h2:=u9 (zs:=zs) fun p hp=>(hg p hp).1
 omega
end NP
namespace Go.Proofs.YtcecidfnchcagaaGreatDoor
open NQ Go NP Go.RowKit
theorem M9{c:Cx}{t:TypeId}(k n:Nat)(hk:k<n)(hn:n<=100000000):EK c .rem t (.d (.int .i64 (IntKind.i64.wrap ((k:Int)+1)))) (.d (.int .i64 (n:Int)))=some (.d (.int .i64 (((k+1) % n:Nat):Int))):=by
 have ew:IntKind.i64.wrap ((k:Int)+1)=((k+1:Nat):Int):=by rw[wrap_i64 (by omega) (by omega)];omega
 have e1:(IntKind.i64.wrap ((k:Int)+1)).tmod (n:Int)=(((k+1) % n:Nat):Int):=by
  rw[ew,Int.tmod_eq_emod_of_nonneg (by omega)];rfl
 have hb:(n:Int) ≠ 0:=by omega
 show(match kJ .rem .i64 (IntKind.i64.wrap ((k:Int)+1)) (n:Int)with | some r=>some (AV.d r) | none=>none)=_
 unfold kJ;rw[decide_eq_false hb];show some (AV.d (.int .i64 ((IntKind.i64.wrap ((k:Int)+1)).tmod (n:Int))))=_
 rw[e1]
set_option maxHeartbeats 2000000 in
theorem w5(w:bS)(s:Bs):NQ.Fn cx 13 [.agg (cH w), .str s] (.d (.bool true)) []:=by
 have fU:=DC w;cases hu:(o6 w&&cC w)with
 | false =>
  rw[hu]at fU;refine aM bf mixed Tryz.func13 (by kernel_rfl) rfl (ag rfl) ?_;conv=>whnf
  (refine⟨_,_,o8,?_⟩;conv=>whnf)
  (refine⟨_,_,fU,?_⟩;conv=>whnf)
  exact af rfl rfl
 | true =>
 rw[hu]at fU;obtain⟨hF,hv,hzl,_⟩:=KY hu;have hg:=wM hF hv;have fN:=lg s;cases hs:aj s with
 | false =>
  rw[hs]at fN;refine aM bf mixed Tryz.func13 (by kernel_rfl) rfl (ag rfl) ?_;conv=>whnf
  (refine⟨_,_,o8,?_⟩;conv=>whnf)
  (refine⟨_,_,fU,?_⟩;conv=>whnf)
  (refine⟨_,_,fN,?_⟩;conv=>whnf)
  exact af rfl rfl
 | true =>
 rw[hs]at fN;have fA:=rV w s hF (by omega);have hA:mY w s=((kI w.zones s).1,(kI w.zones s).2,0):=by unfold mY;rw[if_neg (by rw[hv,hs];simp)]
 rw[hA]at fA;cases h2:(kI w.zones s).2 with
 | false =>
  have hnil:(kI w.zones s).1=[]:=yC _ _ _ h2;rw[h2,hnil]at fA;refine aM bf mixed Tryz.func13 (by kernel_rfl) rfl (ag rfl) ?_;conv=>whnf
  (refine⟨_,_,o8,?_⟩;conv=>whnf)
  (refine⟨_,_,fU,?_⟩;conv=>whnf)
  (refine⟨_,_,fN,?_⟩;conv=>whnf)
  (refine⟨_,_,fA,?_⟩;conv=>whnf)
  refine⟨Unit,fun _=>⟨[(5, .d (.bool true)),(46, .d (.int .i64 0)),(47, .d (.int .i64 0))],[]⟩,fun _=>True,fun _=>0,⟨(),trivial,an.keep ⟨⟨rfl,rfl⟩,⟨rfl,rfl⟩,⟨rfl,rfl⟩,trivial⟩ trivial⟩,fun _ _=>?_⟩
  conv=>whnf
  exact af rfl rfl
 | true =>
 have L:=I5 hg hs h2;have hle:=Gx hg L (by omega);rw[h2]at fA;generalize hl:(kI w.zones s).1=l at *
 have hll:l.length<=100000:=hle;have hpos:decide (((l.map aI).length:Int)>0)=true:=decide_eq_true (by have:=L.pos;rw[ak];omega);refine aM bf mixed Tryz.func13 (by kernel_rfl) rfl (ag rfl) ?_;conv=>whnf
 (refine⟨_,_,o8,?_⟩;conv=>whnf)
 (refine⟨_,_,fU,?_⟩;conv=>whnf)
 (refine⟨_,_,fN,?_⟩;conv=>whnf)
 (refine⟨_,_,fA,?_⟩;conv=>whnf)
 rw[show decide (((l.map aI).length:Int)>0)=true from hpos]
 conv=>whnf
 refine⟨Nat,fun k=>⟨[(1, .d (.str s)),(2, .ptr 2 0),(5, .d (.bool true)),(6, .d (.slice 1 (l.map aI))),(9, .omap 44),(45, .d (.slice 1 (l.map aI))),(46, .d (.int .i64 ((l.map aI).length:Int))),(47, .d (.int .i64 k))],[(2, .box ((cH w).map .d)),(44, .smap (mO (l.take k)))]⟩,
  fun k=>k<=l.length,fun k=>l.length-k,⟨0,Nat.zero_le _,an.keep ⟨⟨rfl,rfl⟩,⟨rfl,rfl⟩,⟨rfl,rfl⟩,⟨rfl,rfl⟩,⟨rfl,rfl⟩,⟨rfl,rfl⟩,⟨rfl,rfl⟩,⟨rfl,rfl⟩,trivial⟩ ⟨⟨rfl,rfl⟩,⟨rfl,rfl⟩,trivial⟩⟩,fun k hk=>?_⟩
 dsimp only at hk ⊢
 conv=>whnf
 refine ae (fun h1=>?_) (fun h1=>?_) <;> (rw[h1];conv=>whnf)
 case refine_2=>exact af rfl rfl
 have hlt:k<l.length:=by simpa using h1
 obtain⟨n,hn⟩:∃n,l[k]? =some n:=⟨_,ah hlt⟩
 have hnv:=L.valid n (ao hn);have hmod:(k+1) % l.length<l.length:=Nat.mod_lt _ (by omega);obtain⟨m,hm⟩:∃m,l[(k+1) % l.length]? =some m:=⟨_,ah hmod⟩
 have fL:=Kc w n hg hnv (by omega);have hlead:=L.lead k n hn;rw[hm]at hlead;rw[hlead]at fL;have hnew:(l.take k).contains n=false:=by
  rw[Bool.eq_false_iff];intro e;obtain⟨j,hj⟩:=bV (dm.1 e);have hjl:=(aq.1 hj).1;rw[List.length_take]at hjl;rw[List.getElem?_take_of_lt (by omega)]at hj;have:=sR L.nodup hj hn;omega
 have hloop:∀x,(x∈l\/x=s)->aj x=true->kP w ⟨x,1⟩=(gr,33):=fun x hx hxv=>by
  rw[IF hv (xg hxv)];exact L.loop x hx 9 []
 have t1:=Ci w ⟨n,1⟩ hF;rw[hloop n (.inl (ao hn)) hnv]at t1;have t2:=Ci w ⟨s,1⟩ hF;rw[hloop s (.inr rfl) hs]at t2;have er:=M9 (c:=cx) (t:=3) k (l.map aI).length (by rw[ak];exact hlt) (by rw[ak];omega);refine⟨aJ k,aI n,aT hn,?_⟩
 conv=>whnf
 (refine⟨_,_,fL,?_⟩;conv=>whnf)
 split
 case h_2 hb=>exact absurd (hb.symm.trans er) (by simp)
 case h_1 hb =>
 cases hb.symm.trans er
 conv=>whnf
 refine⟨aJ _,aI m,(by rw[Int.toNat_natCast,aR,ak,hm];rfl),?_⟩
 conv=>whnf
 rw[show((Ae (some m)).1==m)=true by simp[Ae]]
 conv=>whnf
 rw[lW,hnew]
 conv=>whnf
 (refine⟨_,_,t1,?_⟩;conv=>whnf)
 (refine⟨_,_,t2,?_⟩;conv=>whnf)
 refine⟨k+1,hlt,by(show l.length-(k+1)<l.length-k;omega),an.keep ⟨⟨rfl,rfl⟩,⟨rfl,rfl⟩,⟨rfl,rfl⟩,⟨rfl,rfl⟩,⟨rfl,rfl⟩,⟨rfl,rfl⟩,⟨rfl,rfl⟩,⟨ar (by omega),rfl⟩,trivial⟩ ⟨⟨rfl,rfl⟩,⟨?_,rfl⟩,trivial⟩⟩;rw[bw hn, <- s8 hnew];rfl
end Go.Proofs.YtcecidfnchcagaaGreatDoor
