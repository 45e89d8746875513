/-
  Merged texts.
-/
import Derived.Test.YtodofogcincleaaGreatDoorYzpM
import Derived.Test.YtodofogcincleaaGreatDoorYzoM
set_option linter.all false
set_option maxRecDepth 100000
namespace NP
open NQ Go
def sh(n:Bs)(t:Int)(d:Datum):Signed:=⟨⟨n,t,9,[d]⟩,[]⟩
def RC:aD:=⟨[46],[sh [46] 2 ⟨[97],0,0⟩,sh [46] 4 ⟨[],4,0⟩,sh [46] 7 ⟨[],1,1⟩,sh [120] 2 ⟨[98],0,0⟩,sh [120] 6 ⟨[],2,1⟩]⟩
def x34:aD:=⟨[120],[sh [120] 2 ⟨[98],0,0⟩,sh [120] 4 ⟨[],7,0⟩,sh [120] 7 ⟨[],2,1⟩]⟩
def exV:aL:=⟨[⟨[97],1,0⟩,⟨[98],2,0⟩,⟨[99],3,0⟩],[⟨0,RC⟩,⟨1,x34⟩],⟨[46],6,0,[⟨[],1,1⟩]⟩,[1]⟩
def mV(n:Int):bc:=⟨1,[120],[],[n],⟨0,0⟩⟩
def mU(z:Bs)(n:Int):bc:=⟨2,z,[],[],⟨n,1⟩⟩
end NP
namespace Go.Proofs.YtodofogcincleaaGreatDoor
open NQ Go NP Go.RowKit
def kB(p:al):Int×Bs×Int:=(p.host,p.zone.apex,if p.zone.sets=[]then -1 else fb p.zone)
def nY(h:iU):Int×Bs×Int:=(h.owner,h.name,h.addr)
def okP(p:al):Bool:=decide (p.zone.sets=[])||aR p.zone
def Eo(o:Option aY):List (List (Int×Bs×Int))×Bool:=match o with
 |some o=>(o.stages.map λs=>s.map kB,o.stages.all λs=>s.all okP)
 |none=>([],false)
def oA(s:List al)(l:List iU):Bool:=decide (s.map kB=l.map nY)
theorem lR:tg exV:=⟨by decide,by decide,by decide,λp hp=>by
 rcases List.mem_cons.1 hp with rfl|hp
 . kernel_rfl
 . rcases List.mem_cons.1 hp with rfl|hp
   . kernel_rfl
   . cases hp⟩
theorem pX:eG exV=true:=by kernel_rfl
theorem RZ:eU exV (mU [120] 3)=true:=by kernel_rfl
theorem Sa:eU exV (mU [46] 3)=false:=by kernel_rfl
theorem Rf:Eo (nc exV (mV 2) 0 100)=([[(2,[120],7)],[(1,[120],8),(2,[120],8),(0,[46],5)],[(1,[120], -1)]],true):=by kernel_rfl
theorem Re:Eo (nc exV (mU [120] 3) 0 100)=([[(1,[120],8)],[(0,[46],5)],[(1,[120],9)]],true):=by kernel_rfl
theorem MQ:kU exV (mV 2) 0 100=false:=by kernel_rfl
theorem MR:kU exV (mU [120] 3) 0 100=false:=by kernel_rfl
theorem MS:kU exV (mV 2) 100 0=true:=by kernel_rfl
theorem QY:po exV (mV 2)=false:=by kernel_rfl
theorem QZ:po exV (mV 1)=true:=by kernel_rfl
theorem Ra:rA exV (mU [120] 2)=true:=by kernel_rfl
theorem Rb:fw exV [2]=true:=by kernel_rfl
theorem Rc:fw exV [1]=true:=by kernel_rfl
noncomputable def BJ:Cx:={cx with bld:=[10,20,31,36,42,44,46]}
theorem Pk:aZ BJ:=aV
theorem DF:BJ.P.follows .mixedOrders=true:=mixed
theorem kA(n:Bs)(t:Int)(d:Datum):NQ.Fn cx 60 [.str n,.int .i64 t,.agg (aG d)] (.agg ((ak (sh n t d)).map .d)) []:=by
 show NQ.Fn BJ _ _ _ _
 refine eO (λ_=>[]) Pk DF Tryz.func60 (by kernel_rfl) rfl (ag rfl) ?_
 conv=>whnf
 exact aj rfl rfl
theorem CV:NQ.Fn cx 28 [] (.agg ((bt exV).map .d)) []:=by
 show NQ.Fn BJ _ _ _ _
 refine eO (λ_=>[]) Pk DF Tryz.func28 (by kernel_rfl) rfl (ag rfl) ?_
 conv=>whnf
 (refine⟨_,_,kA [46] 2 ⟨[97],0,0⟩,?_⟩;conv=>whnf)
 (refine⟨_,_,kA [46] 4 ⟨[],4,0⟩,?_⟩;conv=>whnf)
 (refine⟨_,_,kA [46] 7 ⟨[],1,1⟩,?_⟩;conv=>whnf)
 (refine⟨_,_,kA [120] 2 ⟨[98],0,0⟩,?_⟩;conv=>whnf)
 (refine⟨_,_,kA [120] 6 ⟨[],2,1⟩,?_⟩;conv=>whnf)
 (refine⟨_,_,kA [120] 2 ⟨[98],0,0⟩,?_⟩;conv=>whnf)
 (refine⟨_,_,kA [120] 4 ⟨[],7,0⟩,?_⟩;conv=>whnf)
 (refine⟨_,_,kA [120] 7 ⟨[],2,1⟩,?_⟩;conv=>whnf)
 exact aj rfl rfl
theorem Lj{s:List al}{l:List iU}(h:s.length≠l.length):oA s l=false:=by
 unfold oA;rw[decide_eq_false_iff_not];intro e;have:=congrArg List.length e;simp at this;exact h this
set_option maxHeartbeats 2000000 in
theorem oO(s:List al)(l:List iU)(hs:s.length<=100000)(hv:∀p∈s,p.zone.sets≠[]->aR p.zone=true):NQ.Fn cx 30 [.agg (cg s),.slice 3 (l.map eh)] (.d (.bool (oA s l))) []:=by
 refine aK aV mixed Tryz.func30 (by kernel_rfl) rfl (ag rfl) ?_;conv=>whnf
 refine af (λh0=>?_) (λh0=>?_) <;> (rw[h0];conv=>whnf)
 . exact aj rfl (by rw[Lj (by intro e;simp[e]at h0)];rfl)
 have hlen : s.length = l.length := by have : (s.length : Int) = l.length := by simpa using h0
                                       omega
 refine⟨Nat,λk=>⟨[(1,.d (.slice 3 (l.map eh))),(2,.ptr 2 0),(15,.d (.slice 3 (s.map aA))),(16,.d (.int .i64 ((s.map aA).length:Int))),(17,.d (.int .i64 k))],[(2,.box [.d (.slice 3 (s.map aA))])]⟩,λk=>k<=s.length/\(s.take k).map kB=(l.take k).map nY,λk=>s.length-k,
  ⟨0,⟨Nat.zero_le _,rfl⟩,aC.keep⟩,?_⟩
 rintro k ⟨hk,hall⟩
 conv=>whnf
 refine af (λh1=>?_) (λh1=>?_) <;> (rw[h1];conv=>whnf)
 . have hlt:k<s.length:=by simp at h1;omega
   obtain⟨p,hp⟩:∃p,s[k]? =some p:=⟨_,ai hlt⟩
   obtain⟨ho,hh⟩:∃ho,l[k]? =some ho:=⟨_,ai (by omega)⟩
   have hno:kB p≠nY ho->oA s l=false:=λhne=>by
    unfold oA;rw[decide_eq_false_iff_not];intro e;have:=congrArg (λq=>q[k]?) e;simp only[aM,hp,hh,Option.map_some,Option.some.injEq]at this;exact hne this
   have hyes:kB p=nY ho->(s.take (k+1)).map kB=(l.take (k+1)).map nY:=λe=>by
    rw[bK hp,bK hh,List.map_append,List.map_append,hall];simp[e]
   refine⟨aw k,aA p,aB hp,?_⟩
   conv=>whnf
   have again:∀ser:Int,ser=(if p.zone.sets=[]then -1 else fb p.zone)->(((p.host != ho.owner)|| !(p.zone.apex==ho.name))||(ser != ho.addr))= !(decide (kB p=nY ho)):=λser hser=>by
    unfold kB nY;rw[<- hser];by_cases e1:p.host=ho.owner <;> by_cases e2:p.zone.apex=ho.name <;> by_cases e3:ser=ho.addr <;> simp[e1,e2,e3]
   refine af (λh2=>?_) (λh2=>?_) <;> (rw[h2];conv=>whnf)
   . have hne:p.zone.sets≠[]:=by intro e;simp[e]at h2
     (refine⟨_,_,qT p.zone (hv p (au hp) hne),?_⟩;conv=>whnf)
     have again:=again (fb p.zone) (by rw[if_neg hne])
     (refine⟨(by kernel_rfl:bE _ _=true),?_⟩;conv=>whnf)
     repeat' (first
      |(refine⟨aw k,eh ho,aB hh,?_⟩;conv=>whnf)
      |(refine af (λh=>?_) (λh=>?_) <;> (rw[h];conv=>whnf))|fail)
     all_goals first
      | exact aj rfl (by
          have hq:(!(decide (kB p=nY ho)))=true:=by rw[<- again];simp only[*, if_true,if_false,aI]
          rw[hno (by simpa using hq)];rfl)
      | exact ⟨k + 1, ⟨hlt, hyes (by
          have hq:(!(decide (kB p=nY ho)))=false:=by rw[<- again];simp only[*, if_true,if_false,aI]
          simpa using hq)⟩,by(show s.length-(k+1)<s.length-k;omega),aC.keep ⟨ae,ae,ae,ae,⟨ao (k:=k) (by omega),rfl⟩,trivial⟩⟩
      |fail
   . have hne:p.zone.sets=[]:=by
      cases e:p.zone.sets with
      |nil=>rfl
      |cons a t=>rw[e]at h2;simp at h2
     have again:=again (-1) (by rw[if_pos hne])
     (refine⟨(by kernel_rfl:bE _ _=true),?_⟩;conv=>whnf)
     repeat' (first
      |(refine⟨aw k,eh ho,aB hh,?_⟩;conv=>whnf)
      |(refine af (λh=>?_) (λh=>?_) <;> (rw[h];conv=>whnf))|fail)
     all_goals first
      | exact aj rfl (by
          have hq:(!(decide (kB p=nY ho)))=true:=by rw[<- again];simp only[*, if_true,if_false,aI]
          rw[hno (by simpa using hq)];rfl)
      | exact ⟨k + 1, ⟨hlt, hyes (by
          have hq:(!(decide (kB p=nY ho)))=false:=by rw[<- again];simp only[*, if_true,if_false,aI]
          simpa using hq)⟩,by(show s.length-(k+1)<s.length-k;omega),aC.keep ⟨ae,ae,ae,ae,⟨ao (k:=k) (by omega),rfl⟩,trivial⟩⟩
      |fail
 . obtain rfl:k=s.length:=by simp at h1;omega
   refine aj rfl ?_;have:oA s l=true:=by
    unfold oA;rw[decide_eq_true_iff, <- List.take_length (l:=s),hall,hlen,List.take_length]
   rw[this];rfl
end Go.Proofs.YtodofogcincleaaGreatDoor
namespace NQ
open Go
theorem xY{cx cx' :Cx}(h1:cx'.P=cx.P)(h2:cx'.gl=cx.gl){f:FuncId}{args:List AV}{ι:Type}{res:ι->AV}{bs:ι->List (Nat×Blk)}(h:FnC cx f args res bs):FnC cx' f args res bs:=by
 unfold FnC eV ix at *
 rw[h1,h2];exact h
theorem FnC.vn{cx:Cx}{f:FuncId}{args args1:List AV}{ι:Type}{res:ι->AV}{bs:ι->List (Nat×Blk)}(h:FnC cx f args1 res bs)(e:args1=args.map dn2):FnC cx f args res bs:=by
 subst e;refine⟨h.1,λO w vs hO hG hGO hsz hrep=>h.2 O w vs hO hG hGO (by rw[hsz,an]) λj c hj=>?_⟩;rw[aM]at hj;cases hc:args[j]? with
 |none=>rw[hc]at hj;cases hj
 |some c0=>rw[hc]at hj;cases hj;exact uY (hrep j c0 hc)
end NQ
namespace Go.Proofs.YtodofogcincleaaGreatDoor
open NQ Go NP Go.RowKit
theorem Ed{z:aD}(hz:aR z=true):SmJ z:=by
 refine⟨by have:=(cO hz).1;omega,λs k=>?_⟩;cases h:(wfR z s k).2 with
 |true=>have:=sn hz h;omega
 |false =>
  unfold wfR at h ⊢;split at h
  . cases h
  . exact Nat.zero_le _
noncomputable def zF:Cx:={cx with chg:=fG [(29,7)],bld:=[18,54,63,71,80,88,96,107]}
theorem Sw:aZ zF:=aV
theorem Qe:zF.P.follows .mixedOrders=true:=mixed
theorem Bk{r:Option aY}{a b c:List (Int×Bs×Int)}(h:Eo r=([a,b,c],true)):∃o s0 s1 s2,r=some o/\o.stages=[s0,s1,s2]/\s0.map kB=a/\s1.map kB=b/\s2.map kB=c/\(∀p∈s0,p.zone.sets≠[]->aR p.zone=true)/\(∀p∈s1,p.zone.sets≠[]->aR p.zone=true)/\ ∀p∈s2,p.zone.sets≠[]->aR p.zone=true:=by
 cases r with
 |none=>unfold Eo at h;simp at h
 |some o =>
  unfold Eo at h;simp only[Prod.mk.injEq]at h;obtain⟨h1,h2⟩:=h
  match hst:o.stages,h1 with
  |[s0,s1,s2],h1 =>
   rw[hst]at h2;simp only[List.map_cons,List.map_nil,List.cons.injEq,and_true]at h1;simp only[List.all_cons,List.all_nil,iT,aF]at h2;have key:∀s:List al,s.all okP=true-> ∀p∈s,p.zone.sets≠[]->aR p.zone=true:=λs hs p hp hne=>by
    have:=ay.1 hs p hp;unfold okP at this;simpa [hne] using this
   exact⟨o,s0,s1,s2,rfl,hst,h1.1,h1.2.1,h1.2.2,key s0 h2.1,key s1 h2.2.1,key s2 h2.2.2⟩
theorem mY{s:List al}{l:List iU}(h:s.map kB=l.map nY):oA s l=true:=by
 unfold oA;rw[h];exact decide_eq_true rfl
theorem rB{s:List al}{a:List (Int×Bs×Int)}(h:s.map kB=a):s.length=a.length:=by rw[<- h,an]
theorem DL(w:aL)(n:Int)(h:bn w n=true):∀m∈[n],bn w m=true:=λm hm=>by rw[List.mem_singleton.1 hm];exact h
set_option maxHeartbeats 8000000 in
theorem Kx:NQ.Fn cx 7 [] (.d (.bool true)) []:=by
 show NQ.Fn zF _ _ _ _
 have fS1:=xY (cx' :=zF) rfl rfl (oI exV (mV 2) 0 100 lR (by decide));have fS2:=xY (cx' :=zF) rfl rfl (oI exV (mU [120] 3) 0 100 lR (by decide));have fS3:=xY (cx' :=zF) rfl rfl (oI exV (mV 2) 100 0 lR (by decide));have hz:∀p∈exV.zones,aR p.zone=true:=λp hp=>(gH pX p hp).1
 have c1:SmJ (bS exV.zones [120]).1:=Ed (by kernel_rfl);have c2:SmJ (cv exV.zones [120]).1:=Ed (by kernel_rfl);have fD1:=hZ (args:=[.agg (bt exV),.agg (aT (mV 2))]) (AE exV (mV 2) lR pX rfl Rb (DL _ _ (by decide)) (by decide) c1 c2);have fD2:=hZ (args:=[.agg (bt exV),.agg (aT (mV 1))]) (AE exV (mV 1) lR pX rfl Rc (DL _ _ (by decide)) (by decide) c1 c2);have fD3:=hZ (args:=[.agg (bt exV),.agg (aT (mU [120] 2))]) (Ki exV (mU [120] 2) lR pX rfl (λp hp=>Ed (hz p hp)) c2);have fV1:=hZ (args:=[.agg (bt exV),.agg (aT (mU [120] 3))]) (nZ exV (mU [120] 3) lR)
 have fV2:=hZ (args:=[.agg (bt exV),.agg (aT (mU [46] 3))]) (nZ exV (mU [46] 3) lR);rw[QY]at fD1;rw[QZ]at fD2;rw[Ra]at fD3;rw[RZ]at fV1;rw[Sa]at fV2;obtain⟨om,m0,m1,m2,rm,em,hm0,hm1,hm2,vm0,vm1,vm2⟩:=Bk Rf;obtain⟨ok,k0,k1,k2,rk,ek,hk0,hk1,hk2,vk0,vk1,vk2⟩:=Bk Re;have gm:∀q,gS exV (mV 2) 0 100 q->q=([m0,m1,m2],0):=λq hq=>by
  unfold gS at hq;rw[if_neg (by rw[MQ];decide),rm]at hq;rw[hq,em]
 have gk:∀q,gS exV (mU [120] 3) 0 100 q->q=([k0,k1,k2],0):=λq hq=>by
  unfold gS at hq;rw[if_neg (by rw[MR];decide),rk]at hq;rw[hq,ek]
 have gb:∀q,gS exV (mV 2) 100 0 q->q=([],1):=λq hq=>by
  unfold gS at hq
  rwa [if_pos MS]at hq
 have pm0:=oO m0 [⟨[120],7,2⟩] (by rw[rB hm0];decide) vm0;have pm1:=oO m1 [⟨[120],8,1⟩,⟨[120],8,2⟩,⟨[46],5,0⟩] (by rw[rB hm1];decide) vm1;have pm2:=oO m2 [⟨[120], -1,1⟩] (by rw[rB hm2];decide) vm2;have pk0:=oO k0 [⟨[120],8,1⟩] (by rw[rB hk0];decide) vk0;have pk1:=oO k1 [⟨[46],5,0⟩] (by rw[rB hk1];decide) vk1;have pk2:=oO k2 [⟨[120],9,1⟩] (by rw[rB hk2];decide) vk2;rw[mY hm0]at pm0;rw[mY hm1]at pm1;rw[mY hm2]at pm2;rw[mY hk0]at pk0;rw[mY hk1]at pk1;rw[mY hk2]at pk2;clear vm0 vm1 vm2 vk0 vk1 vk2 hm0 hm1 hm2 hk0 hk1 hk2 rm rk em ek hz c1 c2
 refine eO (fun|3=>[88888]|5=>[88888]|13=>[88888]|_=>[]) Sw Qe Tryz.func7 (by kernel_rfl) rfl (ag rfl) ?_
 conv=>whnf
 (refine⟨_,_,CV,?_⟩;conv=>whnf)
 refine⟨_,_,_,⟨fS1,λi=>⟨rfl,rfl⟩⟩,?_⟩;rintro⟨q,hq⟩;obtain rfl:=gm q hq;dsimp only
 conv=>whnf
 refine⟨_,_,_,⟨FnC.vn fS2 rfl,λi=>⟨rfl,rfl⟩⟩,?_⟩;rintro⟨q,hq⟩;obtain rfl:=gk q hq;dsimp only
 conv=>whnf
 repeat' (first
  |(refine⟨Int.le_refl 0,cg m0,rfl,?_⟩;conv=>whnf)
  |(refine⟨by decide,cg m1,rfl,?_⟩;conv=>whnf)
  |(refine⟨by decide,cg m2,rfl,?_⟩;conv=>whnf)
  |(refine⟨Int.le_refl 0,cg k0,rfl,?_⟩;conv=>whnf)
  |(refine⟨by decide,cg k1,rfl,?_⟩;conv=>whnf)
  |(refine⟨by decide,cg k2,rfl,?_⟩;conv=>whnf)
  |(refine⟨_,_,pm0,?_⟩;conv=>whnf)
  |(refine⟨_,pm0,by kernel_rfl,?_⟩;conv=>whnf)
  |(refine⟨_,_,pm1,?_⟩;conv=>whnf)
  |(refine⟨_,pm1,by kernel_rfl,?_⟩;conv=>whnf)
  |(refine⟨_,_,pm2,?_⟩;conv=>whnf)
  |(refine⟨_,pm2,by kernel_rfl,?_⟩;conv=>whnf)
  |(refine⟨_,_,pk0,?_⟩;conv=>whnf)
  |(refine⟨_,pk0,by kernel_rfl,?_⟩;conv=>whnf)
  |(refine⟨_,_,pk1,?_⟩;conv=>whnf)
  |(refine⟨_,pk1,by kernel_rfl,?_⟩;conv=>whnf)
  |(refine⟨_,_,pk2,?_⟩;conv=>whnf)
  |(refine⟨_,pk2,by kernel_rfl,?_⟩;conv=>whnf)
  |(refine⟨_,_,fD1,?_⟩;conv=>whnf)
  |(refine⟨_,fD1,by kernel_rfl,?_⟩;conv=>whnf)
  |(refine⟨_,_,fD2,?_⟩;conv=>whnf)
  |(refine⟨_,fD2,by kernel_rfl,?_⟩;conv=>whnf)
  |(refine⟨_,_,fD3,?_⟩;conv=>whnf)
  |(refine⟨_,fD3,by kernel_rfl,?_⟩;conv=>whnf)
  |(refine⟨_,_,fV1,?_⟩;conv=>whnf)
  |(refine⟨_,fV1,by kernel_rfl,?_⟩;conv=>whnf)
  |(refine⟨_,_,fV2,?_⟩;conv=>whnf)
  |(refine⟨_,fV2,by kernel_rfl,?_⟩;conv=>whnf)
  |fail)
 refine⟨_,_,_,⟨FnC.vn fS3 rfl,λi=>⟨rfl,rfl⟩⟩,?_⟩;rintro⟨q,hq⟩;obtain rfl:=gb q hq;dsimp only
 conv=>whnf
 repeat' (first
  |(refine⟨_,_,fV1,?_⟩;conv=>whnf)
  |(refine⟨_,fV1,by kernel_rfl,?_⟩;conv=>whnf)
  |(refine⟨_,_,fV2,?_⟩;conv=>whnf)
  |(refine⟨_,fV2,by kernel_rfl,?_⟩;conv=>whnf)
  |fail)
 exact aj rfl rfl
end Go.Proofs.YtodofogcincleaaGreatDoor
namespace NP
open NQ Go
def iP(w:aL)(l:List (List al))(k:Nat):aL:=(l.take k).foldl kf w
def mh(w:aL)(l:List (List al))(k:Nat):List aL:=(List.range (k+1)).map (iP w l)
theorem uP{w:aL}{l:List (List al)}{k:Nat}{s:List al}(h:l[k]? =some s):iP w l (k+1)=kf (iP w l k) s:=by
 unfold iP;rw[List.take_add_one,h,List.foldl_append];rfl
theorem EE(w:aL)(l:List (List al)):iP w l 0=w:=rfl
theorem EF(w:aL)(l:List (List al))(k:Nat):mh w l (k+1)=mh w l k++[iP w l (k+1)]:=by
 unfold mh;rw[List.range_succ,List.map_append];rfl
theorem wC{w:aL}{l:List (List al)}(hl:∀s∈l,s.length<=2000):∀k,k<=l.length->(iP w l k).zones.length<=w.zones.length+k*2000
 |0,_=>by rw[EE];omega
 |k+1,h=>by
  have ih:=wC (w:=w) hl k (by omega);obtain⟨s,hs⟩:∃s,l[k]? =some s:=⟨_,ai (by omega)⟩
  rw[uP hs];have h1:=tk s (iP w l k).zones;have h2:=hl s (au hs);show(s.foldl gX (iP w l k).zones).length<=_
  omega
end NP
namespace Go.Proofs.YtodofogcincleaaGreatDoor
open NQ Go NP Go.RowKit
def pG(w:aL)(x:bc):Bool:= !(((!lE w||decide ((x.hosts.length:Int)>20))||decide ((x.zone.length:Int)>100))||decide ((x.name.length:Int)>100))
def jP(w:aL)(x:bc)(since till:Int):Option (List (List al)):=if pG w x=true then(if kU w x since till=true then none else match nc w x since till with
 |some o=>some o.stages
 |none=>none)else none
theorem Jd{w:aL}{x:bc}{since till:Int}{l:List (List al)}(h:jP w x since till=some l):∃o,o.stages=l/\nc w x since till=some o/\lE w=true/\eU w x=true/\eG w=true/\x.zone.length<=100/\kU w x since till=false:=by
 unfold jP at h;split at h
 case isFalse=>cases h
 rename_i h1;split at h
 . cases h
 rename_i h2;split at h
 case h_2=>cases h
 rename_i o ho;cases h;have h2:kU w x since till=false:=by simpa using h2
 have hx:eU w x=true:=by
  have:=h2;unfold kU at this;simp only[Bool.or_eq_false_iff,Bool.not_eq_false']at this;exact this.1.1.1
 have hvw:eG w=true:=by
  have:=hx;unfold eU at this;simp only[aF,Bool.not_eq_true',Bool.or_eq_false_iff,Bool.not_eq_false']at this;exact this.1.1
 unfold pG at h1;simp only[Bool.not_eq_true',Bool.or_eq_false_iff,Bool.not_eq_false',decide_eq_false_iff_not]at h1;exact⟨o,rfl,ho,h1.1.1.1,hx,hvw,by omega,h2⟩
noncomputable def tI:Cx:={cx with chg:=fG [(29,7)],bld:=[]}
theorem RO:aZ tI:=aV
theorem KV:tI.P.follows .mixedOrders=true:=mixed
def QC(w:aL):Option (List (List al))->AV
 |some l=> .tuple [.d (.slice 1 (l.map cg)),.d (.slice 7 ((mh w l l.length).map bt)),.d (.bool true)]
 |none=> .tuple [.d (.slice 1 []),.d (.slice 7 []),.d (.bool false)]
set_option maxHeartbeats 4000000 in
theorem FD(w:aL)(x:bc)(since till:Int):NQ.Fn cx 8 [.agg (bt w),.agg (aT x),.int .i64 since,.int .i64 till] (QC w (jP w x since till)) []:=by
 show NQ.Fn tI _ _ _ _
 refine eO (fun|3=>[88888]|13=>[48]|_=>[]) RO KV Tryz.func8 (by kernel_rfl) rfl (ag rfl) ?_;have hS:lE w=true->FnC tI 29 [.agg ((bt w).map .d),.agg ((aT x).map .d),.d (.int .i64 since),.d (.int .i64 till)] (ι:={q:List (List al)×Int // gS w x since till q}) (λq=> .tuple [.d (.slice 1 (q.1.1.map cg)),.d (.int .i64 q.1.2)]) (λ_=>[]):=λh=>xY (cx' :=tI) rfl rfl (oI w x since till (sj h).1 (sj h).2.2.1)
 conv=>whnf
 (refine⟨_,_,PF w,?_⟩;conv=>whnf)
 have hbad:pG w x=false->jP w x since till=none:=λh=>by unfold jP;rw[if_neg (by rw[h];decide)]
 repeat' (first|(refine af (λh=>?_) (λh=>?_) <;> (rw[h];conv=>whnf))|fail)
 all_goals first
  |exact aj rfl (by rw[hbad (by unfold pG;(try simp only[an]at *);simp only[*, if_true,if_false,aI])];rfl)
  |skip
 have hsm:pG w x=true:=by unfold pG;(try simp only[an]at *);simp only[*, if_true,if_false,aI]
 have hfw:lE w=true:=by
  have:=hsm;unfold pG at this;simp only[Bool.not_eq_true',Bool.or_eq_false_iff,Bool.not_eq_false']at this;exact this.1.1.1
 have hn20:=(sj hfw).2.2.1;refine⟨_,_,_,⟨hS hfw,λi=>⟨rfl,rfl⟩⟩,?_⟩;rintro⟨⟨l,e⟩,hq⟩;dsimp only
 conv=>whnf
 unfold gS at hq;have hL:jP w x since till=if kU w x since till=true then none else match nc w x since till with
  |some o=>some o.stages
  |none=>none:=by unfold jP;rw[if_pos hsm]
 rw[hL];clear hL hbad hS;by_cases hb:kU w x since till=true
 . rw[if_pos hb]at hq ⊢;cases hq
   conv=>whnf
   exact aj rfl rfl
 rw[if_neg hb]at hq ⊢;cases hr:nc w x since till with
 |none =>
  rw[hr]at hq;obtain⟨e1,e2⟩:=hq;dsimp only at e1 e2;rw[show(e != 0)=true by simpa using e2]
  conv=>whnf
  exact aj rfl rfl
 |some o =>
  rw[hr]at hq;cases hq;dsimp only
  conv=>whnf
  have hb' :kU w x since till=false:=by simpa using hb
  have hx:eU w x=true:=by
   have:=hb';unfold kU at this;simp only[Bool.or_eq_false_iff,Bool.not_eq_false']at this;exact this.1.1.1
  have hvw:eG w=true:=by
   have:=hx;unfold eU at this;simp only[aF,Bool.not_eq_true',Bool.or_eq_false_iff,Bool.not_eq_false']at this;exact this.1.1
  have hok:=(GK hr hvw hx hn20).1;have hnum:=hok.num;have hlen:∀s∈o.stages,s.length<=2000:=λs hs=>(hok.st s hs).2.1
  clear hok hr hb hb' hx hvw;generalize o.stages=l at hnum hlen ⊢;refine⟨Nat×aL×List aL,λq=>⟨[(4,.ptr 4 0),(11,.d (.slice 1 (l.map cg))),(13,.own 48),(49,.d (.slice 1 (l.map cg))),(50,.d (.int .i64 ((l.map cg).length:Int))),(51,.d (.int .i64 q.1))],[(48,.row 29 7 (q.2.2.map bt)),(4,.box ((bt q.2.1).map .d))]⟩,λq=>q.1<=l.length/\q.2.1=iP w l q.1/\q.2.2=mh w l q.1,λq=>l.length-q.1,
   ⟨(0,w,[w]),⟨Nat.zero_le _,rfl,rfl⟩,aC.keep⟩,?_⟩
  rintro⟨k,wk,W⟩ ⟨hk,hwk,hW⟩;dsimp only at hk hwk hW
  conv=>whnf
  refine af (λh1=>?_) (λh1=>?_) <;> (rw[h1];conv=>whnf)
  . have hlt:k<l.length:=by simp at h1;omega
    obtain⟨s,hs⟩:∃s,l[k]? =some s:=⟨_,ai hlt⟩
    have hsl:=hlen s (au hs);have hwl:=wC (w:=w) hlen k hk;rw[<- hwk]at hwl;have hmul:k*2000<=3*2000:=Nat.mul_le_mul_right _ (by omega);have hWl:W.length=k+1:=by rw[hW];unfold mh;simp
    refine⟨aw k,cg s,aB hs,?_⟩
    conv=>whnf
    (refine⟨_,_,JK wk s (by omega),?_⟩;conv=>whnf)
    refine⟨by simp;omega,by simp;omega,?_⟩
    conv=>whnf
    have e1:iP w l (k+1)=kf wk s:=by rw[uP hs,hwk]
    have e2:W++[kf wk s]=mh w l (k+1):=by rw[EF,hW,e1]
    refine⟨(k+1,kf wk s,W++[kf wk s]),⟨hlt,e1.symm,e2⟩,by(show l.length-(k+1)<l.length-k;omega),aC.keep ⟨ae,ae,ae,ae,ae,⟨ao (k:=k) (by omega),rfl⟩,trivial⟩ ⟨⟨?_,rfl⟩,(by repeat' (first|exact trivial|refine⟨ae,?_⟩))⟩⟩;show _=some (Blk.row 29 7 ((W++[kf wk s]).map bt))
    rw[List.map_append];rfl
  . obtain rfl:k=l.length:=by simp at h1;omega
    subst hW;exact aj rfl rfl
theorem BG(w:aL)(x:bc)(since:Int)(b2:(Lit.int .i64 since).wf=true)(till:Int)(b3:(Lit.int .i64 till).wf=true):NQ.Fn cx 4 [.agg (bt w),.agg (aT x),.int .i64 since,.int .i64 till] (.d (.bool true)) []:=by
 have hSt:=FD w x since till;refine Lg w x since till (jP w x since till) ((jP w x since till).elim [] λl=>mh w l l.length) Kx ?_ λl hl k3=>?_
 . cases hs:jP w x since till with
   |none=>rw[hs]at hSt;exact hSt
   |some l=>rw[hs]at hSt;exact hSt
 . obtain⟨o,rfl,ho,hfw,hx,hvw,_,_⟩:=Jd hl;have hn20:=(sj hfw).2.2.1;have hv:=λp hp=>(gH hvw p hp).1
   obtain⟨hok,h12,h4,hab,hkd⟩:=GK ho hvw hx hn20;refine⟨hv,hn20,hok.num,λk4=>?_,λk4 s hs=>?_⟩
   . have hk:x.kind=1\/x.kind=2:=by omega
     have hva:aQ x.zone=true:=by
      unfold eU at hx;simp only[aF]at hx;rcases gj w.zones x.zone with ⟨p,hp,e,ea⟩|⟨e,_⟩
      . rw[<- ea];exact(bX (hv p hp)).apex
      . rw[e]at hx;simp at hx
     obtain⟨k,p,e1,e2,e3⟩:=JD hv hva (hab hk);refine⟨k,p,e1,e2,λs hs=>?_⟩;obtain⟨g1,g2,g3⟩:=(h12 hk).st s hs;refine⟨g1,g2,λq hq=>?_⟩;obtain⟨f1,f2⟩:=g3 q hq;rw[e3]at f2;refine⟨f1,?_⟩;rcases List.mem_cons.1 f2 with f2|f2
     . exact .inl f2
     . exact .inr (.inl (List.mem_singleton.1 f2))
   . obtain⟨g1,g2,g3⟩:=(h4 k4).st s hs;refine⟨g1,g2,λq hq=>?_⟩;obtain⟨f1,f2⟩:=g3 q hq;refine⟨f1,?_⟩;rcases List.mem_cons.1 f2 with f2|f2
     . exact .inl f2
     . exact .inr (.inr ⟨k4,List.mem_singleton.1 f2⟩)
end Go.Proofs.YtodofogcincleaaGreatDoor
