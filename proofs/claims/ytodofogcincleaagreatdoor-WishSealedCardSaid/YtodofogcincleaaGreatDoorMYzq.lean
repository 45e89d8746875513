/-
  Merged texts.
-/
import Derived.Test.YtodofogcincleaaGreatDoorYzpM
import Derived.Test.YtodofogcincleaaGreatDoorYzoM
set_option linter.all false
set_option maxRecDepth 100000
namespace NP
open NQ Go
def sN(n:Bs)(t:Int)(d:Datum):Signed:=⟨⟨n,t,9,[d]⟩,[]⟩
def Sg:aB:=⟨[46],[sN [46] 2 ⟨[97],0,0⟩,sN [46] 4 ⟨[],4,0⟩,sN [46] 7 ⟨[],1,1⟩,sN [120] 2 ⟨[98],0,0⟩,sN [120] 6 ⟨[],2,1⟩]⟩
def x34:aB:=⟨[120],[sN [120] 2 ⟨[98],0,0⟩,sN [120] 4 ⟨[],7,0⟩,sN [120] 7 ⟨[],2,1⟩]⟩
def exV:aL:=⟨[⟨[97],1,0⟩,⟨[98],2,0⟩,⟨[99],3,0⟩],[⟨0,Sg⟩,⟨1,x34⟩],⟨[46],6,0,[⟨[],1,1⟩]⟩,[1]⟩
def nF(n:Int):aY:=⟨1,[120],[],[n],⟨0,0⟩⟩
def nE(z:Bs)(n:Int):aY:=⟨2,z,[],[],⟨n,1⟩⟩
end NP
namespace Go.Proofs.YtodofogcincleaaGreatDoor
open NQ Go NP Go.RowKit
def kX(p:ai):Int×Bs×Int:=(p.host,p.zone.apex,if p.zone.sets=[]then -1 else eP p.zone)
def oR(h:jn):Int×Bs×Int:=(h.owner,h.name,h.addr)
def okP(p:ai):Bool:=decide (p.zone.sets=[])||aR p.zone
def EU(o:Option aX):List (List (Int×Bs×Int))×Bool:=match o with
 |some o=>(o.stages.map λs=>s.map kX,o.stages.all λs=>s.all okP)
 |none=>([],false)
def pg(s:List ai)(l:List jn):Bool:=decide (s.map kX=l.map oR)
theorem mD:tR exV:=⟨by decide,by decide,by decide,λp hp=>by
 rcases List.mem_cons.1 hp with rfl|hp
 . kernel_rfl
 . rcases List.mem_cons.1 hp with rfl|hp
   . kernel_rfl
   . cases hp⟩
theorem qD:eB exV=true:=by kernel_rfl
theorem SD:eQ exV (nE [120] 3)=true:=by kernel_rfl
theorem SE:eQ exV (nE [46] 3)=false:=by kernel_rfl
theorem RH:EU (mu exV (nF 2) 0 100)=([[(2,[120],7)],[(1,[120],8),(2,[120],8),(0,[46],5)],[(1,[120], -1)]],true):=by kernel_rfl
theorem RG:EU (mu exV (nE [120] 3) 0 100)=([[(1,[120],8)],[(0,[46],5)],[(1,[120],9)]],true):=by kernel_rfl
theorem Ny:lD exV (nF 2) 0 100=false:=by kernel_rfl
theorem Nz:lD exV (nE [120] 3) 0 100=false:=by kernel_rfl
theorem NA:lD exV (nF 2) 100 0=true:=by kernel_rfl
theorem RB:pZ exV (nF 2)=false:=by kernel_rfl
theorem RC:pZ exV (nF 1)=true:=by kernel_rfl
theorem RD:rZ exV (nE [120] 2)=true:=by kernel_rfl
theorem RE:fP exV [2]=true:=by kernel_rfl
theorem RF:fP exV [1]=true:=by kernel_rfl
noncomputable def Co:Cx:={cx with bld:=[10,20,31,36,42,44,46]}
theorem PO:ba Co:=aV
theorem Ei:Co.P.follows .mixedOrders=true:=mixed
theorem kW(n:Bs)(t:Int)(d:Datum):NQ.Fn cx 60 [.str n,.int .i64 t,.agg (aI d)] (.agg ((ak (sN n t d)).map .d)) []:=by
 show NQ.Fn Co _ _ _ _
 refine fC (λ_=>[]) PO Ei Tryz.func60 (by kernel_rfl) rfl (ag rfl) ?_
 conv=>whnf
 exact al rfl rfl
theorem Dx:NQ.Fn cx 28 [] (.agg ((bn exV).map .d)) []:=by
 show NQ.Fn Co _ _ _ _
 refine fC (λ_=>[]) PO Ei Tryz.func28 (by kernel_rfl) rfl (ag rfl) ?_
 conv=>whnf
 (refine⟨_,_,kW [46] 2 ⟨[97],0,0⟩,?_⟩;conv=>whnf)
 (refine⟨_,_,kW [46] 4 ⟨[],4,0⟩,?_⟩;conv=>whnf)
 (refine⟨_,_,kW [46] 7 ⟨[],1,1⟩,?_⟩;conv=>whnf)
 (refine⟨_,_,kW [120] 2 ⟨[98],0,0⟩,?_⟩;conv=>whnf)
 (refine⟨_,_,kW [120] 6 ⟨[],2,1⟩,?_⟩;conv=>whnf)
 (refine⟨_,_,kW [120] 2 ⟨[98],0,0⟩,?_⟩;conv=>whnf)
 (refine⟨_,_,kW [120] 4 ⟨[],7,0⟩,?_⟩;conv=>whnf)
 (refine⟨_,_,kW [120] 7 ⟨[],2,1⟩,?_⟩;conv=>whnf)
 exact al rfl rfl
theorem LV{s:List ai}{l:List jn}(h:s.length≠l.length):pg s l=false:=by
 unfold pg;rw[decide_eq_false_iff_not];intro e;have:=congrArg List.length e;simp at this;exact h this
set_option maxHeartbeats 2000000 in
theorem pE(s:List ai)(l:List jn)(hs:s.length<=100000)(hv:∀p∈s,p.zone.sets≠[]->aR p.zone=true):NQ.Fn cx 30 [.agg (bV s),.slice 3 (l.map eN)] (.d (.bool (pg s l))) []:=by
 refine aM aV mixed Tryz.func30 (by kernel_rfl) rfl (ag rfl) ?_;conv=>whnf
 refine af (λh0=>?_) (λh0=>?_) <;> (rw[h0];conv=>whnf)
 . exact al rfl (by rw[LV (by intro e;simp[e]at h0)];rfl)
 have hlen : s.length = l.length := by have : (s.length : Int) = l.length := by simpa using h0
                                       omega
 refine⟨Nat,λk=>⟨[(1,.d (.slice 3 (l.map eN))),(2,.ptr 2 0),(15,.d (.slice 3 (s.map aC))),(16,.d (.int .i64 ((s.map aC).length:Int))),(17,.d (.int .i64 k))],[(2,.box [.d (.slice 3 (s.map aC))])]⟩,λk=>k<=s.length/\(s.take k).map kX=(l.take k).map oR,λk=>s.length-k,
  ⟨0,⟨Nat.zero_le _,rfl⟩,aF.keep⟩,?_⟩
 rintro k ⟨hk,hall⟩
 conv=>whnf
 refine af (λh1=>?_) (λh1=>?_) <;> (rw[h1];conv=>whnf)
 . have hlt:k<s.length:=by simp at h1;omega
   obtain⟨p,hp⟩:∃p,s[k]? =some p:=⟨_,aj hlt⟩
   obtain⟨ho,hh⟩:∃ho,l[k]? =some ho:=⟨_,aj (by omega)⟩
   have hno:kX p≠oR ho->pg s l=false:=λhne=>by
    unfold pg;rw[decide_eq_false_iff_not];intro e;have:=congrArg (λq=>q[k]?) e;simp only[aN,hp,hh,Option.map_some,Option.some.injEq]at this;exact hne this
   have hyes:kX p=oR ho->(s.take (k+1)).map kX=(l.take (k+1)).map oR:=λe=>by
    rw[bU hp,bU hh,List.map_append,List.map_append,hall];simp[e]
   refine⟨aw k,aC p,aD hp,?_⟩
   conv=>whnf
   have again:∀ser:Int,ser=(if p.zone.sets=[]then -1 else eP p.zone)->(((p.host != ho.owner)|| !(p.zone.apex==ho.name))||(ser != ho.addr))= !(decide (kX p=oR ho)):=λser hser=>by
    unfold kX oR;rw[<- hser];by_cases e1:p.host=ho.owner <;> by_cases e2:p.zone.apex=ho.name <;> by_cases e3:ser=ho.addr <;> simp[e1,e2,e3]
   refine af (λh2=>?_) (λh2=>?_) <;> (rw[h2];conv=>whnf)
   . have hne:p.zone.sets≠[]:=by intro e;simp[e]at h2
     (refine⟨_,_,lR p.zone (hv p (ar hp) hne),?_⟩;conv=>whnf)
     have again:=again (eP p.zone) (by rw[if_neg hne])
     (refine⟨(by kernel_rfl:bC _ _=true),?_⟩;conv=>whnf)
     repeat' (first
      |(refine⟨aw k,eN ho,aD hh,?_⟩;conv=>whnf)
      |(refine af (λh=>?_) (λh=>?_) <;> (rw[h];conv=>whnf))|fail)
     all_goals first
      | exact al rfl (by
          have hq:(!(decide (kX p=oR ho)))=true:=by rw[<- again];simp only[*, if_true,if_false,aK]
          rw[hno (by simpa using hq)];rfl)
      | exact ⟨k + 1, ⟨hlt, hyes (by
          have hq:(!(decide (kX p=oR ho)))=false:=by rw[<- again];simp only[*, if_true,if_false,aK]
          simpa using hq)⟩,by(show s.length-(k+1)<s.length-k;omega),aF.keep ⟨ae,ae,ae,ae,⟨an (k:=k) (by omega),rfl⟩,trivial⟩⟩
      |fail
   . have hne:p.zone.sets=[]:=by
      cases e:p.zone.sets with
      |nil=>rfl
      |cons a t=>rw[e]at h2;simp at h2
     have again:=again (-1) (by rw[if_pos hne])
     (refine⟨(by kernel_rfl:bC _ _=true),?_⟩;conv=>whnf)
     repeat' (first
      |(refine⟨aw k,eN ho,aD hh,?_⟩;conv=>whnf)
      |(refine af (λh=>?_) (λh=>?_) <;> (rw[h];conv=>whnf))|fail)
     all_goals first
      | exact al rfl (by
          have hq:(!(decide (kX p=oR ho)))=true:=by rw[<- again];simp only[*, if_true,if_false,aK]
          rw[hno (by simpa using hq)];rfl)
      | exact ⟨k + 1, ⟨hlt, hyes (by
          have hq:(!(decide (kX p=oR ho)))=false:=by rw[<- again];simp only[*, if_true,if_false,aK]
          simpa using hq)⟩,by(show s.length-(k+1)<s.length-k;omega),aF.keep ⟨ae,ae,ae,ae,⟨an (k:=k) (by omega),rfl⟩,trivial⟩⟩
      |fail
 . obtain rfl:k=s.length:=by simp at h1;omega
   refine al rfl ?_;have:pg s l=true:=by
    unfold pg;rw[decide_eq_true_iff, <- List.take_length (l:=s),hall,hlen,List.take_length]
   rw[this];rfl
end Go.Proofs.YtodofogcincleaaGreatDoor
namespace NQ
open Go
theorem yz{cx cx' :Cx}(h1:cx'.P=cx.P)(h2:cx'.gl=cx.gl){f:FuncId}{args:List AV}{ι:Type}{res:ι->AV}{bs:ι->List (Nat×Blk)}(h:FnC cx f args res bs):FnC cx' f args res bs:=by
 unfold FnC ff iN at *
 rw[h1,h2];exact h
theorem FnC.vR{cx:Cx}{f:FuncId}{args args1:List AV}{ι:Type}{res:ι->AV}{bs:ι->List (Nat×Blk)}(h:FnC cx f args1 res bs)(e:args1=args.map dn2):FnC cx f args res bs:=by
 subst e;refine⟨h.1,λO w vs hO hG hGO hsz hrep=>h.2 O w vs hO hG hGO (by rw[hsz,ao]) λj c hj=>?_⟩;rw[aN]at hj;cases hc:args[j]? with
 |none=>rw[hc]at hj;cases hj
 |some c0=>rw[hc]at hj;cases hj;exact vE (hrep j c0 hc)
end NQ
namespace Go.Proofs.YtodofogcincleaaGreatDoor
open NQ Go NP Go.RowKit
theorem EK{z:aB}(hz:aR z=true):SmJ z:=by
 refine⟨by have:=(cU hz).1;omega,λs k=>?_⟩;cases h:(wfR z s k).2 with
 |true=>have:=sR hz h;omega
 |false =>
  unfold wfR at h ⊢;split at h
  . cases h
  . exact Nat.zero_le _
noncomputable def Ah:Cx:={cx with chg:=fY [(29,7)],bld:=[18,54,63,71,80,88,96,107]}
theorem SZ:ba Ah:=aV
theorem QH:Ah.P.follows .mixedOrders=true:=mixed
theorem BM{r:Option aX}{a b c:List (Int×Bs×Int)}(h:EU r=([a,b,c],true)):∃o s0 s1 s2,r=some o/\o.stages=[s0,s1,s2]/\s0.map kX=a/\s1.map kX=b/\s2.map kX=c/\(∀p∈s0,p.zone.sets≠[]->aR p.zone=true)/\(∀p∈s1,p.zone.sets≠[]->aR p.zone=true)/\ ∀p∈s2,p.zone.sets≠[]->aR p.zone=true:=by
 cases r with
 |none=>unfold EU at h;simp at h
 |some o =>
  unfold EU at h;simp only[Prod.mk.injEq]at h;obtain⟨h1,h2⟩:=h
  match hst:o.stages,h1 with
  |[s0,s1,s2],h1 =>
   rw[hst]at h2;simp only[List.map_cons,List.map_nil,List.cons.injEq,and_true]at h1;simp only[List.all_cons,List.all_nil,jm,aH]at h2;have key:∀s:List ai,s.all okP=true-> ∀p∈s,p.zone.sets≠[]->aR p.zone=true:=λs hs p hp hne=>by
    have:=ay.1 hs p hp;unfold okP at this;simpa [hne] using this
   exact⟨o,s0,s1,s2,rfl,hst,h1.1,h1.2.1,h1.2.2,key s0 h2.1,key s1 h2.2.1,key s2 h2.2.2⟩
theorem nH{s:List ai}{l:List jn}(h:s.map kX=l.map oR):pg s l=true:=by
 unfold pg;rw[h];exact decide_eq_true rfl
theorem sc{s:List ai}{a:List (Int×Bs×Int)}(h:s.map kX=a):s.length=a.length:=by rw[<- h,ao]
theorem Eo(w:aL)(n:Int)(h:bk w n=true):∀m∈[n],bk w m=true:=λm hm=>by rw[List.mem_singleton.1 hm];exact h
set_option maxHeartbeats 8000000 in
theorem Ll:NQ.Fn cx 7 [] (.d (.bool true)) []:=by
 show NQ.Fn Ah _ _ _ _
 have fS1:=yz (cx' :=Ah) rfl rfl (px exV (nF 2) 0 100 mD (by decide));have fS2:=yz (cx' :=Ah) rfl rfl (px exV (nE [120] 3) 0 100 mD (by decide));have fS3:=yz (cx' :=Ah) rfl rfl (px exV (nF 2) 100 0 mD (by decide));have hz:∀p∈exV.zones,aR p.zone=true:=λp hp=>(gY qD p hp).1
 have c1:SmJ (bz exV.zones [120]).1:=EK (by kernel_rfl);have c2:SmJ (cB exV.zones [120]).1:=EK (by kernel_rfl);have fD1:=iB (args:=[.agg (bn exV),.agg (aS (nF 2))]) (Bf exV (nF 2) mD qD rfl RE (Eo _ _ (by decide)) (by decide) c1 c2);have fD2:=iB (args:=[.agg (bn exV),.agg (aS (nF 1))]) (Bf exV (nF 1) mD qD rfl RF (Eo _ _ (by decide)) (by decide) c1 c2);have fD3:=iB (args:=[.agg (bn exV),.agg (aS (nE [120] 2))]) (KV exV (nE [120] 2) mD qD rfl (λp hp=>EK (hz p hp)) c2);have fV1:=iB (args:=[.agg (bn exV),.agg (aS (nE [120] 3))]) (oS exV (nE [120] 3) mD)
 have fV2:=iB (args:=[.agg (bn exV),.agg (aS (nE [46] 3))]) (oS exV (nE [46] 3) mD);rw[RB]at fD1;rw[RC]at fD2;rw[RD]at fD3;rw[SD]at fV1;rw[SE]at fV2;obtain⟨om,m0,m1,m2,rm,em,hm0,hm1,hm2,vm0,vm1,vm2⟩:=BM RH;obtain⟨ok,k0,k1,k2,rk,ek,hk0,hk1,hk2,vk0,vk1,vk2⟩:=BM RG;have gm:∀q,il exV (nF 2) 0 100 q->q=([m0,m1,m2],0):=λq hq=>by
  unfold il at hq;rw[if_neg (by rw[Ny];decide),rm]at hq;rw[hq,em]
 have gk:∀q,il exV (nE [120] 3) 0 100 q->q=([k0,k1,k2],0):=λq hq=>by
  unfold il at hq;rw[if_neg (by rw[Nz];decide),rk]at hq;rw[hq,ek]
 have gb:∀q,il exV (nF 2) 100 0 q->q=([],1):=λq hq=>by
  unfold il at hq
  rwa [if_pos NA]at hq
 have pm0:=pE m0 [⟨[120],7,2⟩] (by rw[sc hm0];decide) vm0;have pm1:=pE m1 [⟨[120],8,1⟩,⟨[120],8,2⟩,⟨[46],5,0⟩] (by rw[sc hm1];decide) vm1;have pm2:=pE m2 [⟨[120], -1,1⟩] (by rw[sc hm2];decide) vm2;have pk0:=pE k0 [⟨[120],8,1⟩] (by rw[sc hk0];decide) vk0;have pk1:=pE k1 [⟨[46],5,0⟩] (by rw[sc hk1];decide) vk1;have pk2:=pE k2 [⟨[120],9,1⟩] (by rw[sc hk2];decide) vk2;rw[nH hm0]at pm0;rw[nH hm1]at pm1;rw[nH hm2]at pm2;rw[nH hk0]at pk0;rw[nH hk1]at pk1;rw[nH hk2]at pk2;clear vm0 vm1 vm2 vk0 vk1 vk2 hm0 hm1 hm2 hk0 hk1 hk2 rm rk em ek hz c1 c2
 refine fC (fun|3=>[88888]|5=>[88888]|13=>[88888]|_=>[]) SZ QH Tryz.func7 (by kernel_rfl) rfl (ag rfl) ?_
 conv=>whnf
 (refine⟨_,_,Dx,?_⟩;conv=>whnf)
 refine⟨_,_,_,⟨fS1,λi=>⟨rfl,rfl⟩⟩,?_⟩;rintro⟨q,hq⟩;obtain rfl:=gm q hq;dsimp only
 conv=>whnf
 refine⟨_,_,_,⟨FnC.vR fS2 rfl,λi=>⟨rfl,rfl⟩⟩,?_⟩;rintro⟨q,hq⟩;obtain rfl:=gk q hq;dsimp only
 conv=>whnf
 repeat' (first
  |(refine⟨Int.le_refl 0,bV m0,rfl,?_⟩;conv=>whnf)
  |(refine⟨by decide,bV m1,rfl,?_⟩;conv=>whnf)
  |(refine⟨by decide,bV m2,rfl,?_⟩;conv=>whnf)
  |(refine⟨Int.le_refl 0,bV k0,rfl,?_⟩;conv=>whnf)
  |(refine⟨by decide,bV k1,rfl,?_⟩;conv=>whnf)
  |(refine⟨by decide,bV k2,rfl,?_⟩;conv=>whnf)
  |(refine⟨_,_,pm0,?_⟩;conv=>whnf)
  |(refine⟨_,pm0,by kernel_rfl,?_⟩;conv=>whnf)
  |(refine⟨_,_,pm1,?_⟩;conv=>whnf)
  |(refine⟨_,pm1,by kernel_rfl,?_⟩;conv=>whnf)
  |(refine⟨_,_,pm2,?_⟩;conv=>whnf)
  |(refine⟨_,pm2,by kernel_rfl,?_⟩;conv=>whnf)
  |(refine⟨_,_,pk0,?_⟩;conv=>whnf)
  |(refine⟨_,pk0,by kernel_rfl,?_⟩;conv=>whnf)
  |(refine⟨_,_,pk1,?_⟩;conv=>whnf)
  |(refine⟨_,pk1,by kernel_rfl,?_⟩;conv=>whnf)
  |(refine⟨_,_,pk2,?_⟩;conv=>whnf)
  |(refine⟨_,pk2,by kernel_rfl,?_⟩;conv=>whnf)
  |(refine⟨_,_,fD1,?_⟩;conv=>whnf)
  |(refine⟨_,fD1,by kernel_rfl,?_⟩;conv=>whnf)
  |(refine⟨_,_,fD2,?_⟩;conv=>whnf)
  |(refine⟨_,fD2,by kernel_rfl,?_⟩;conv=>whnf)
  |(refine⟨_,_,fD3,?_⟩;conv=>whnf)
  |(refine⟨_,fD3,by kernel_rfl,?_⟩;conv=>whnf)
  |(refine⟨_,_,fV1,?_⟩;conv=>whnf)
  |(refine⟨_,fV1,by kernel_rfl,?_⟩;conv=>whnf)
  |(refine⟨_,_,fV2,?_⟩;conv=>whnf)
  |(refine⟨_,fV2,by kernel_rfl,?_⟩;conv=>whnf)
  |fail)
 refine⟨_,_,_,⟨FnC.vR fS3 rfl,λi=>⟨rfl,rfl⟩⟩,?_⟩;rintro⟨q,hq⟩;obtain rfl:=gb q hq;dsimp only
 conv=>whnf
 repeat' (first
  |(refine⟨_,_,fV1,?_⟩;conv=>whnf)
  |(refine⟨_,fV1,by kernel_rfl,?_⟩;conv=>whnf)
  |(refine⟨_,_,fV2,?_⟩;conv=>whnf)
  |(refine⟨_,fV2,by kernel_rfl,?_⟩;conv=>whnf)
  |fail)
 exact al rfl rfl
end Go.Proofs.YtodofogcincleaaGreatDoor
namespace NP
open NQ Go
def fV(w:aL)(l:List (List ai))(k:Nat):aL:=(l.take k).foldl iw w
def kq(w:aL)(l:List (List ai))(k:Nat):List aL:=(List.range (k+1)).map (fV w l)
theorem vw{w:aL}{l:List (List ai)}{k:Nat}{s:List ai}(h:l[k]? =some s):fV w l (k+1)=iw (fV w l k) s:=by
 unfold fV;rw[List.take_add_one,h,List.foldl_append];rfl
theorem Fi(w:aL)(l:List (List ai)):fV w l 0=w:=rfl
theorem Fj(w:aL)(l:List (List ai))(k:Nat):kq w l (k+1)=kq w l k++[fV w l (k+1)]:=by
 unfold kq;rw[List.range_succ,List.map_append];rfl
theorem rL{w:aL}{l:List (List ai)}(hl:∀s∈l,s.length<=2000):∀k,k<=l.length->(fV w l k).zones.length<=w.zones.length+k*2000
 |0,_=>by rw[Fi];omega
 |k+1,h=>by
  have ih:=rL (w:=w) hl k (by omega);obtain⟨s,hs⟩:∃s,l[k]? =some s:=⟨_,aj (by omega)⟩
  rw[vw hs];have h1:=tU s (fV w l k).zones;have h2:=hl s (ar hs);show(s.foldl cL (fV w l k).zones).length<=_
  omega
end NP
namespace Go.Proofs.YtodofogcincleaaGreatDoor
open NQ Go NP Go.RowKit
def qm(w:aL)(x:aY):Bool:= !(((!mi w||decide ((x.hosts.length:Int)>20))||decide ((x.zone.length:Int)>100))||decide ((x.name.length:Int)>100))
def kn(w:aL)(x:aY)(since till:Int):Option (List (List ai)):=if qm w x=true then(if lD w x since till=true then none else match mu w x since till with
 |some o=>some o.stages
 |none=>none)else none
theorem JR{w:aL}{x:aY}{since till:Int}{l:List (List ai)}(h:kn w x since till=some l):∃o,o.stages=l/\mu w x since till=some o/\mi w=true/\eQ w x=true/\eB w=true/\x.zone.length<=100/\lD w x since till=false:=by
 unfold kn at h;split at h
 case isFalse=>cases h
 rename_i h1;split at h
 . cases h
 rename_i h2;split at h
 case h_2=>cases h
 rename_i o ho;cases h;have h2:lD w x since till=false:=by simpa using h2
 have hx:eQ w x=true:=by
  have:=h2;unfold lD at this;simp only[Bool.or_eq_false_iff,Bool.not_eq_false']at this;exact this.1.1.1
 have hvw:eB w=true:=by
  have:=hx;unfold eQ at this;simp only[aH,Bool.not_eq_true',Bool.or_eq_false_iff,Bool.not_eq_false']at this;exact this.1.1
 unfold qm at h1;simp only[Bool.not_eq_true',Bool.or_eq_false_iff,Bool.not_eq_false',decide_eq_false_iff_not]at h1;exact⟨o,rfl,ho,h1.1.1.1,hx,hvw,by omega,h2⟩
noncomputable def uk:Cx:={cx with chg:=fY [(29,7)],bld:=[]}
theorem Ss:ba uk:=aV
theorem LJ:uk.P.follows .mixedOrders=true:=mixed
def Rf(w:aL):Option (List (List ai))->AV
 |some l=> .tuple [.d (.slice 1 (l.map bV)),.d (.slice 7 ((kq w l l.length).map bn)),.d (.bool true)]
 |none=> .tuple [.d (.slice 1 []),.d (.slice 7 []),.d (.bool false)]
set_option maxHeartbeats 4000000 in
theorem Gk(w:aL)(x:aY)(since till:Int):NQ.Fn cx 8 [.agg (bn w),.agg (aS x),.int .i64 since,.int .i64 till] (Rf w (kn w x since till)) []:=by
 show NQ.Fn uk _ _ _ _
 refine fC (fun|3=>[88888]|13=>[48]|_=>[]) Ss LJ Tryz.func8 (by kernel_rfl) rfl (ag rfl) ?_;have hS:mi w=true->FnC uk 29 [.agg ((bn w).map .d),.agg ((aS x).map .d),.d (.int .i64 since),.d (.int .i64 till)] (ι:={q:List (List ai)×Int // il w x since till q}) (λq=> .tuple [.d (.slice 1 (q.1.1.map bV)),.d (.int .i64 q.1.2)]) (λ_=>[]):=λh=>yz (cx' :=uk) rfl rfl (px w x since till (sP h).1 (sP h).2.2.1)
 conv=>whnf
 (refine⟨_,_,Qj w,?_⟩;conv=>whnf)
 have hbad:qm w x=false->kn w x since till=none:=λh=>by unfold kn;rw[if_neg (by rw[h];decide)]
 repeat' (first|(refine af (λh=>?_) (λh=>?_) <;> (rw[h];conv=>whnf))|fail)
 all_goals first
  |exact al rfl (by rw[hbad (by unfold qm;(try simp only[ao]at *);simp only[*, if_true,if_false,aK])];rfl)
  |skip
 have hsm:qm w x=true:=by unfold qm;(try simp only[ao]at *);simp only[*, if_true,if_false,aK]
 have hfw:mi w=true:=by
  have:=hsm;unfold qm at this;simp only[Bool.not_eq_true',Bool.or_eq_false_iff,Bool.not_eq_false']at this;exact this.1.1.1
 have hn20:=(sP hfw).2.2.1;refine⟨_,_,_,⟨hS hfw,λi=>⟨rfl,rfl⟩⟩,?_⟩;rintro⟨⟨l,e⟩,hq⟩;dsimp only
 conv=>whnf
 unfold il at hq;have hL:kn w x since till=if lD w x since till=true then none else match mu w x since till with
  |some o=>some o.stages
  |none=>none:=by unfold kn;rw[if_pos hsm]
 rw[hL];clear hL hbad hS;by_cases hb:lD w x since till=true
 . rw[if_pos hb]at hq ⊢;cases hq
   conv=>whnf
   exact al rfl rfl
 rw[if_neg hb]at hq ⊢;cases hr:mu w x since till with
 |none =>
  rw[hr]at hq;obtain⟨e1,e2⟩:=hq;dsimp only at e1 e2;rw[show(e != 0)=true by simpa using e2]
  conv=>whnf
  exact al rfl rfl
 |some o =>
  rw[hr]at hq;cases hq;dsimp only
  conv=>whnf
  have hb' :lD w x since till=false:=by simpa using hb
  have hx:eQ w x=true:=by
   have:=hb';unfold lD at this;simp only[Bool.or_eq_false_iff,Bool.not_eq_false']at this;exact this.1.1.1
  have hvw:eB w=true:=by
   have:=hx;unfold eQ at this;simp only[aH,Bool.not_eq_true',Bool.or_eq_false_iff,Bool.not_eq_false']at this;exact this.1.1
  have hok:=(Hu hr hvw hx hn20).1;have hnum:=hok.num;have hlen:∀s∈o.stages,s.length<=2000:=λs hs=>(hok.st s hs).2.1
  clear hok hr hb hb' hx hvw;generalize o.stages=l at hnum hlen ⊢;refine⟨Nat×aL×List aL,λq=>⟨[(4,.ptr 4 0),(11,.d (.slice 1 (l.map bV))),(13,.own 48),(49,.d (.slice 1 (l.map bV))),(50,.d (.int .i64 ((l.map bV).length:Int))),(51,.d (.int .i64 q.1))],[(48,.row 29 7 (q.2.2.map bn)),(4,.box ((bn q.2.1).map .d))]⟩,λq=>q.1<=l.length/\q.2.1=fV w l q.1/\q.2.2=kq w l q.1,λq=>l.length-q.1,
   ⟨(0,w,[w]),⟨Nat.zero_le _,rfl,rfl⟩,aF.keep⟩,?_⟩
  rintro⟨k,wk,W⟩ ⟨hk,hwk,hW⟩;dsimp only at hk hwk hW
  conv=>whnf
  refine af (λh1=>?_) (λh1=>?_) <;> (rw[h1];conv=>whnf)
  . have hlt:k<l.length:=by simp at h1;omega
    obtain⟨s,hs⟩:∃s,l[k]? =some s:=⟨_,aj hlt⟩
    have hsl:=hlen s (ar hs);have hwl:=rL (w:=w) hlen k hk;rw[<- hwk]at hwl;have hmul:k*2000<=3*2000:=Nat.mul_le_mul_right _ (by omega);have hWl:W.length=k+1:=by rw[hW];unfold kq;simp
    refine⟨aw k,bV s,aD hs,?_⟩
    conv=>whnf
    (refine⟨_,_,Kw wk s (by omega),?_⟩;conv=>whnf)
    refine⟨by simp;omega,by simp;omega,?_⟩
    conv=>whnf
    have e1:fV w l (k+1)=iw wk s:=by rw[vw hs,hwk]
    have e2:W++[iw wk s]=kq w l (k+1):=by rw[Fj,hW,e1]
    refine⟨(k+1,iw wk s,W++[iw wk s]),⟨hlt,e1.symm,e2⟩,by(show l.length-(k+1)<l.length-k;omega),aF.keep ⟨ae,ae,ae,ae,ae,⟨an (k:=k) (by omega),rfl⟩,trivial⟩ ⟨⟨?_,rfl⟩,(by repeat' (first|exact trivial|refine⟨ae,?_⟩))⟩⟩;show _=some (Blk.row 29 7 ((W++[iw wk s]).map bn))
    rw[List.map_append];rfl
  . obtain rfl:k=l.length:=by simp at h1;omega
    subst hW;exact al rfl rfl
theorem nX(z:aB):bG z=(gh (wfR z z.apex 4).1).n:=by
 unfold bG wfR;cases kB z z.apex 4 with
 |none=>rfl
 |some x=>cases h:x.set.data <;> simp[gh,h]
def ja(zs:List ai):Prop:= ∀p∈zs,aR p.zone=true
theorem pL(a:Bs):∀(l:List ai) (i:Nat) (b:Option (Nat×ai)) (j:Nat) (q:ai),kA a b i l=some (j,q)->(∀p∈l,p.zone.apex=a->bG p.zone<=bG q.zone)/\ ∀x,b=some x->bG x.2.zone<=bG q.zone
 |[],i,b,j,q,h=>by
  have h:b=some (j,q):=h;refine⟨λp hp=>absurd hp (List.not_mem_nil),λx hx=>?_⟩;rw[h]at hx;cases hx;exact Int.le_refl _
 |p::t,i,b,j,q,h=>by
  obtain⟨h1,h2⟩:=pL a t (i+1) (lh a b i p) j q h;have hs:(p.zone.apex=a->bG p.zone<=bG q.zone)/\ ∀x,b=some x->bG x.2.zone<=bG q.zone:=by
   unfold lh at h2;by_cases hp:p.zone.apex=a
   . rw[if_neg (by simp[hp])]at h2;cases b with
     |none=>exact⟨λ_=>h2 _ rfl,λx hx=>by cases hx⟩
     |some x =>
      obtain⟨k,r⟩:=x;dsimp only at h2;by_cases hc:ud r p<0
      . rw[if_pos hc]at h2;have h3:=h2 _ rfl;refine⟨λ_=>h3,λx hx=>?_⟩;cases hx;unfold ud cR at hc;dsimp only at h3 ⊢;split at hc <;> (try split at hc) <;> (try split at hc) <;> (try split at hc) <;> (try split at hc) <;> omega
      . rw[if_neg hc]at h2;have h3:=h2 _ rfl;refine⟨λ_=>?_,λx hx=>by cases hx;exact h3⟩;unfold ud cR at hc;dsimp only at h3 ⊢;split at hc <;> (try split at hc) <;> (try split at hc) <;> (try split at hc) <;> (try split at hc) <;> omega
   . rw[if_pos (by simp[hp])]at h2;exact⟨λe=>absurd e hp,h2⟩
  exact⟨λr hr=>by
   rcases List.mem_cons.1 hr with rfl|hr
   . exact hs.1
   . exact h1 r hr,hs.2⟩
def mf(zs:List ai)(a:Bs)(n:Int):Prop:=(∃p∈zs,p.zone.apex=a/\bG p.zone=n)/\ ∀p∈zs,p.zone.apex=a->bG p.zone<=n
theorem mf.copy{zs:List ai}{a:Bs}{n:Int}(hv:ja zs)(h:mf zs a n):∃k q,fq zs a=some (k,q)/\bG q.zone=n:=by
 obtain⟨⟨p,hp,ha,hn⟩,hm⟩:=h;cases hc:fq zs a with
 |none=>exact absurd ha (Iw hc p hp)
 |some x =>
  obtain⟨k,q⟩:=x;obtain⟨h1,h2⟩:=dA hc;rw[<- sI hv]at hc;have h3:=(pL a zs 0 none k q hc).1 p hp ha;have h4:=hm q (ar h1) h2;exact⟨k,q,rfl,by omega⟩
theorem pH{zs:List ai}{a:Bs}{k:Nat}{q:ai}(hv:ja zs)(h:fq zs a=some (k,q)):mf zs a (bG q.zone):=by
 obtain⟨h1,h2⟩:=dA h;rw[<- sI hv]at h;exact⟨⟨q,ar h1,h2,rfl⟩,(pL a zs 0 none k q h).1⟩
theorem gD{zs:List ai}{p q:ai}:q∈cL zs p ↔ (q∈zs/\(q.host≠p.host\/q.zone.apex≠p.zone.apex))\/(p.zone.sets≠[]/\q=p):=by
 unfold cL;rw[List.mem_append,List.mem_filter];refine or_congr (and_congr_right λ_=>by simp) ?_;split
 . simp[*]
 . simp[*]
theorem mf.fold{a:Bs}{n:Int}:∀(l:List ai) {zs:List ai},(∀p∈l,p.zone.apex=a->p.zone.sets≠[]/\bG p.zone=n)->mf zs a n->mf (l.foldl cL zs) a n
 |[],zs,_,h=>h
 |p::t,zs,hl,h=>by
  refine mf.fold t (λq hq=>hl q (aZ _ hq)) ?_;have hp:=hl p (List.mem_cons_self ..);obtain⟨⟨q,hq,ha,hn⟩,hm⟩:=h;refine⟨?_,λr hr e=>?_⟩
  . by_cases e:p.zone.apex=a
    . exact⟨p,gD.2 (.inr ⟨(hp e).1,rfl⟩),e,(hp e).2⟩
    . exact⟨q,gD.2 (.inl ⟨hq,.inr (by rw[ha];exact λh=>e h.symm)⟩),ha,hn⟩
  . rcases gD.1 hr with ⟨h1,_⟩|⟨_,rfl⟩
    . exact hm r h1 e
    . rw[(hp e).2];exact Int.le_refl _
theorem BN:∀(l:List ai) {zs:List ai},(∀p∈l,p.zone.sets=[]\/aR p.zone=true)->ja zs->ja (l.foldl cL zs)
 |[],zs,_,h=>h
 |p::t,zs,hl,h=>by
  refine BN t (λq hq=>hl q (aZ _ hq)) λq hq=>?_
  rcases gD.1 hq with ⟨h1,_⟩|⟨h1,rfl⟩
  . exact h q h1
  . exact(hl q (List.mem_cons_self ..)).resolve_left h1
def sr(zs:List ai)(a:Bs)(z:aB):Prop:=(∃p∈zs,p.zone.apex=a)/\ ∀p∈zs,p.zone.apex=a->p.zone=z
theorem sr.top{zs:List ai}{a:Bs}{z:aB}(h:sr zs a z):mf zs a (bG z):=by
 obtain⟨⟨p,hp,ha⟩,hm⟩:=h;exact⟨⟨p,hp,ha,by rw[hm p hp ha]⟩,λq hq e=>by rw[hm q hq e];exact Int.le_refl _⟩
theorem sr.fold{a:Bs}{z:aB}:∀(l:List ai) {zs:List ai},(∀p∈l,p.zone.apex≠a)->sr zs a z->sr (l.foldl cL zs) a z
 |[],zs,_,h=>h
 |p::t,zs,hl,h=>by
  refine sr.fold t (λq hq=>hl q (aZ _ hq)) ?_;have hp:=hl p (List.mem_cons_self ..);obtain⟨⟨q,hq,ha⟩,hm⟩:=h;refine⟨⟨q,gD.2 (.inl ⟨hq,.inr (by rw[ha];exact λh=>hp h.symm)⟩),ha⟩,λr hr e=>?_⟩;rcases gD.1 hr with ⟨h1,_⟩|⟨_,rfl⟩
  . exact hm r h1 e
  . exact absurd e hp
theorem zI{z:aB}:∀(l:List ai) {zs:List ai},(∀p∈l,p.zone=z)-> ∀q∈l.foldl cL zs,q.zone=z\/(q∈zs/\ ∀p∈l,p.host≠q.host\/q.zone.apex≠z.apex)
 |[],zs,_,q,hq=> .inr ⟨hq,λp hp=>by cases hp⟩
 |p::t,zs,hl,q,hq=>by
  have hp:=hl p (List.mem_cons_self ..);rcases zI t (λq hq=>hl q (aZ _ hq)) q hq with h|⟨h,h2⟩
  . exact .inl h
  . rcases gD.1 h with ⟨h1,h3⟩|⟨_,rfl⟩
    . refine .inr ⟨h1,λr hr=>?_⟩;rcases List.mem_cons.1 hr with rfl|hr
      . rw[hp]at h3;exact h3.imp Ne.symm id
      . exact h2 r hr
    . exact .inl hp
theorem BF{a:Bs}:∀(l:List ai) {zs:List ai},(∀p∈l,p.zone.sets≠[])->(∃p∈zs,p.zone.apex=a)-> ∃p∈l.foldl cL zs,p.zone.apex=a
 |[],zs,_,h=>h
 |p::t,zs,hl,⟨q,hq,ha⟩=>by
  refine BF t (λq hq=>hl q (aZ _ hq)) ?_;by_cases e:p.zone.apex=a
  . exact⟨p,gD.2 (.inr ⟨hl p (List.mem_cons_self ..),rfl⟩),e⟩
  . exact⟨q,gD.2 (.inl ⟨hq,.inr (by rw[ha];exact λh=>e h.symm)⟩),ha⟩
theorem Gj{z:aB}{zs:List ai}{g:List Int}(hz:z.sets≠[])(h:∃p∈zs,p.zone.apex=z.apex):sr ((cA z zs++cS z g).foldl cL zs) z.apex z:=by
 have hp:∀p∈cA z zs++cS z g,p.zone=z:=λp hp=>by
  rcases List.mem_append.1 hp with hp|hp
  . unfold cA at hp;obtain⟨q,_,rfl⟩:=List.mem_map.1 hp;rfl
  . unfold cS at hp;obtain⟨q,_,rfl⟩:=List.mem_map.1 hp;rfl
 refine⟨BF _ (λp h=>by rw[hp p h];exact hz) h,λq hq ha=>?_⟩;rcases zI _ hp q hq with h|⟨h1,h2⟩
 . exact h
 . have:(⟨q.host,z⟩:ai)∈cA z zs:=by
    unfold cA;exact List.mem_map.2 ⟨q,List.mem_filter.2 ⟨h1,by simp[ha]⟩,rfl⟩
   rcases h2 _ (List.mem_append_left _ this)with h|h
   . exact absurd rfl h
   . exact absurd ha h
theorem my{z:aB}{zs:List ai}{g:List Int}:∀p∈cA z zs++cS z g,p.zone=z:=λp hp=>by
 rcases List.mem_append.1 hp with hp|hp
 . unfold cA at hp;obtain⟨q,_,rfl⟩:=List.mem_map.1 hp;rfl
 . unfold cS at hp;obtain⟨q,_,rfl⟩:=List.mem_map.1 hp;rfl
def tT(x:aY)(since till:Int)(zs:List ai)(p:ai):Prop:=p.zone.sets=[]\/(∃k q,fq zs p.zone.apex=some (k,q)/\(p.zone=q.zone\/xX since till (bG q.zone) p.zone))\/(fq zs p.zone.apex=none/\x.kind=4/\p.zone.apex=x.name/\xX since till 0 p.zone)
theorem tT.val{x:aY}{since till:Int}{zs:List ai}{p:ai}(hv:ja zs)(h:tT x since till zs p):p.zone.sets=[]\/aR p.zone=true:=by
 rcases h with h|⟨k,q,hc,h|h⟩|⟨_,_,_,h⟩
 . exact .inl h
 . rw[h];exact .inr (hv q (ar (dA hc).1))
 . exact .inr h.valid
 . exact .inr h.valid
def xT(w:aL)(l:List (List ai)):List ai:=l.foldl (λzs s=>s.foldl cL zs) w.zones
theorem Ko(w:aL):∀(l:List (List ai)),(l.foldl iw w).zones=xT w l
 |[]=>rfl
 |s::t=>by
  have:∀(l:List (List ai)) (w:aL),(l.foldl iw w).zones=l.foldl (λzs s=>s.foldl cL zs) w.zones:=λl=>by
   induction l with
   |nil=>intro w;rfl
   |cons s t ih=>intro w;exact ih (iw w s)
  exact this _ w
structure iv(w:aL)(x:aY)(since till:Int)(l:List (List ai))(zs:List ai):Prop where
 at_:xT w l=zs
 val:ja zs
 puts:∀k s,l[k]? =some s->ja (xT w (l.take k))/\ ∀p∈s,tT x since till (xT w (l.take k)) p
theorem iv.nil{w:aL}{x:aY}{since till:Int}(h:ja w.zones):iv w x since till [] w.zones:=⟨rfl,h,λk s h=>by simp at h⟩
theorem iv.start{w:aL}{x:aY}{since till:Int}{l:List (List ai)}(h:ja w.zones)(hl:l=[]):iv w x since till l w.zones:=by rw[hl];exact iv.nil h
theorem iv.add{w:aL}{x:aY}{since till:Int}{l:List (List ai)}{zs:List ai}(h:iv w x since till l zs){s:List ai}(hs:∀p∈s,tT x since till zs p):iv w x since till (l++(if s=[]then[]else[s])) (s.foldl cL zs):=by
 by_cases e:s=[]
 . subst e;simpa using h
 . rw[if_neg e];refine⟨?_,BN s (λp hp=>(hs p hp).val h.val) h.val,λk t ht=>?_⟩
   . unfold xT;rw[List.foldl_append];show s.foldl cL (xT w l)=_
     rw[h.at_]
   . by_cases hk:k<l.length
     . rw[cq hk]at ht;rw[List.take_append_of_le_length (by omega)];exact h.puts k t ht
     . have hk2:k=l.length:=by
        have:=(aq.1 ht).1;simp at this;omega
       subst hk2;rw[List.take_left,h.at_];have:t=s:=by simpa using ht.symm
       subst this;exact⟨h.val,hs⟩
theorem CG(apex:Bs):∀(l:List ai) (x:Bs×Bool),(x.2=true->x.1≠apex)->((l.foldl (pJ apex) x).2=true->(l.foldl (pJ apex) x).1≠apex)
 |[],x,h=>h
 |p::t,x,h=>by
  refine CG apex t _ ?_;unfold pJ;split
  . rename_i g;intro _ e;simp only[aH,bne_iff_ne,ne_eq]at g;exact g.1.1 e
  . exact h
theorem mC{zs:List ai}(hv:ja zs){a:Bs}(h:(bz zs a).2=true):∃k q,fq zs a=some (k,q)/\(bz zs a).1=q.zone:=by
 cases hc:fq zs a with
 |none =>
  unfold bz at h;rw[sI hv,hc]at h;cases h
 |some x =>
  obtain⟨k,q⟩:=x;exact⟨k,q,rfl,by rw[GN hv hc]⟩
theorem wj{zs:List ai}(hv:ja zs){apex:Bs}(h:(cB zs apex).2=true):∃a k q,a≠apex/\fq zs a=some (k,q)/\(cB zs apex).1=q.zone:=by
 unfold cB at h ⊢;split at h
 case isFalse=>cases h
 rename_i h1;rw[if_pos h1];split at h
 case isFalse=>cases h
 rename_i h2;rw[if_pos h2];refine⟨(jb apex zs).1,?_⟩;have hne:(jb apex zs).1≠apex:=CG apex zs _ (by simp) h1;have hc:(bz zs (jb apex zs).1).2=true:=by
  rcases eF zs (jb apex zs).1 with ⟨p,hp,e,ea⟩|⟨e,_⟩
  . rw[e]
  . rw[e]at h2;cases h2
 obtain⟨k,q,g1,g2⟩:=mC hv hc;exact⟨k,q,hne,g1,g2⟩
theorem tJ{z:aB}(h:aR z=true):z.sets≠[]:=λe=>by
 have:=(we.1 h).start;rw[e]at this;cases this
theorem kT{x:aY}{since till:Int}{zs:List ai}{y z:aB}{n:Int}(hv:ja zs)(ht:mf zs y.apex n)(hy:(gh (wfR y y.apex 4).1).n=n)(h:cG since till y=some z){p:ai}(hp:p.zone=z):tT x since till zs p:=by
 obtain⟨k,q,h1,h2⟩:=ht.copy hv;refine .inr (.inl ⟨k,q,by rw[hp,eh h];exact h1,.inr ?_⟩);rw[hp,h2, <- hy];exact EI h
theorem Jg{o o2:aX}{x:aY}(h:nV o x=some o2)(hv:ja o.w.zones)(hc:(bz o.w.zones x.zone).2=true)(hz:o.zone=(bz o.w.zones x.zone).1)(hs:o.stages=[]):∃zs,iv o.w x o.since o.till o2.stages zs:=by
 unfold nV at h;split at h
 case isFalse=>cases h
 rename_i hab;obtain⟨a,k1,q1,hne,hc1,e1⟩:=wj hv hab;obtain⟨k0,q0,hc0,e0⟩:=mC hv hc;rw[e1]at h;have ez:o.zone=q0.zone:=hz.trans e0;have a0:=(dA hc0).2;have a1:=(dA hc1).2;have v0:=hv q0 (ar (dA hc0).1);unfold pY at h;split at h
 . cases h
 rename_i z1 hz1;split at h
 . cases h
 rename_i z2 hz2;cases h;have g0:∀p∈cJ o x x.hosts,p.zone=q0.zone:=λp hp=>by
  unfold cJ at hp;obtain⟨n,hn,rfl⟩:=List.mem_map.1 hp;exact ez
 have S1:=(iv.start (x:=x) (since:=o.since) (till:=o.till) hv hs).add (s:=cJ o x x.hosts) λp hp=> .inr (.inl ⟨k0,q0,by rw[g0 p hp,a0];exact hc0,.inl (g0 p hp)⟩)
 have t0:mf ((cJ o x x.hosts).foldl cL o.w.zones) x.zone (bG q0.zone):=(pH hv hc0).fold _ λp hp _=>by rw[g0 p hp];exact⟨tJ v0,rfl⟩
 have t1:mf ((cJ o x x.hosts).foldl cL o.w.zones) a (bG q1.zone):=(pH hv hc1).fold _ λp hp e=>by rw[g0 p hp,a0]at e;exact absurd e.symm hne
 have mv:∀z:aB,(kf (cH {o with puts:=cJ o x x.hosts}) x z).apex=z.apex:=λz=>by unfold kf;rw[dK,dS]
 have ms:∀z:aB,(gh (wfR (kf (cH {o with puts:=cJ o x x.hosts}) x z) (kf (cH {o with puts:=cJ o x x.hosts}) x z).apex 4).1).n=bG z:=λz=>by
  rw[mv,nX];exact congrArg (λr=>(gh r.1).n) ((Ao _ _ _ _ (show(4:Int)≠1 by decide) _ _).trans (rR _ _ _ _ _ (show(4:Int)≠2 by decide)))
 have hz1:cG o.since o.till (kf (cH {o with puts:=cJ o x x.hosts}) x q0.zone)=some z1:=by rw[<- ez];exact hz1
 have S2:=S1.add (s:=(aJ (aJ (cH {o with puts:=cJ o x x.hosts}) z1) z2).puts) λp hp=>by
  have hp:p∈([]++cA z1 o.w.zones++cS z1 (bu (cH {o with puts:=cJ o x x.hosts}).got z1.apex))++cA z2 o.w.zones++cS z2 (bu (cH {o with puts:=cJ o x x.hosts}).got z2.apex):=hp;rw[List.nil_append,List.append_assoc]at hp;rcases List.mem_append.1 hp with hp|hp
  . exact kT S1.val (by rw[mv,a0];exact t0) (ms _) hz1 (my p hp)
  . exact kT S1.val (by rw[mv,a1];exact t1) (ms _) hz2 (my p hp)
 have S3:=S2.add (s:=eE x o.w.zones) λp hp=>by
  unfold eE at hp;obtain⟨q,hq,rfl⟩:=List.mem_map.1 hp;exact .inl rfl
 have e:(yQ (aJ (aJ (cH {o with puts:=cJ o x x.hosts}) z1) z2) x).stages=((o.stages++(if cJ o x x.hosts=[]then[]else[cJ o x x.hosts]))++(if (aJ (aJ (cH {o with puts:=cJ o x x.hosts}) z1) z2).puts=[]then[]else[(aJ (aJ (cH {o with puts:=cJ o x x.hosts}) z1) z2).puts]))++(if eE x o.w.zones=[]then[]else[eE x o.w.zones]):=by
  rfl
 rw[e];exact⟨_,S3⟩
theorem IZ{o o2:aX}{x:aY}(h:nU o x=some o2)(hv:ja o.w.zones)(hc:(bz o.w.zones x.zone).2=true)(hz:o.zone=(bz o.w.zones x.zone).1)(hs:o.stages=[])(hp0:o.puts=[]):∃zs,iv o.w x o.since o.till o2.stages zs:=by
 unfold nU at h;split at h
 case isFalse=>cases h
 rename_i hab;obtain⟨a,k1,q1,hne,hc1,e1⟩:=wj hv hab;obtain⟨k0,q0,hc0,e0⟩:=mC hv hc;rw[e1]at h;have ez:o.zone=q0.zone:=hz.trans e0;have a0:=(dA hc0).2;have a1:=(dA hc1).2;have m0:=ar (dA hc0).1;unfold yI at h;split at h
 case isFalse=>cases h
 split at h
 . cases h
 rename_i z hz1;unfold ov at h;split at h
 case isFalse=>cases h
 split at h
 . cases h
 rename_i z2 hz2;unfold uP at h;split at h
 . cases h
 rename_i z3 hz3;cases h;have bs:∀(z:aB) (s:Bs) (k life:Int) (d:List Datum),k≠4->(gh (wfR (bo z s k life d) (bo z s k life d).apex 4).1).n=bG z:=λz s k life d hk=>by
  rw[dS,rR _ _ _ _ _ (Ne.symm hk),nX]
 have az:z.apex=x.zone:=by rw[eh hz1,dS,ez];exact a0
 have az2:z2.apex=a:=by rw[eh hz2,dS];exact a1
 have t0:=pH hv hc0;have t1:=pH hv hc1;generalize hS1:cA z o.w.zones++cS z (bu o.got z.apex)=P1 at *
 have hP1:∀p∈P1,p.zone=z:=by rw[<- hS1];exact my
 have S1:=(iv.start (x:=x) (since:=o.since) (till:=o.till) hv hs).add (s:=P1) λp hp =>
  kT hv (by rw[dS,ez,a0];exact t0) ((bs _ _ _ _ _ (by decide)).trans (by rw[ez])) hz1 (hP1 p hp)
 have d1:sr (P1.foldl cL o.w.zones) x.zone z:=by
  rw[<- az, <- hS1];exact Gj (tJ (EI hz1).valid) ⟨q0,m0,by rw[a0,az]⟩
 have t1' :mf (P1.foldl cL o.w.zones) a (bG q1.zone):=t1.fold _ λp hp e=>by rw[hP1 p hp,az]at e;exact absurd e.symm hne
 generalize hS2:cA z2 o.w.zones++cS z2 (bu o.got z2.apex)=P2 at *
 have hP2:∀p∈P2,p.zone=z2:=by rw[<- hS2];exact my
 have S2:=S1.add (s:=P2) λp hp=>kT S1.val (by rw[dS,a1];exact t1') (bs _ _ _ _ _ (by decide)) hz2 (hP2 p hp)
 have d2:sr (P2.foldl cL (P1.foldl cL o.w.zones)) x.zone z:=d1.fold _ λp hp=>by rw[hP2 p hp,az2];exact hne
 generalize hS3:cA z3 o.w.zones++cS z3 (bu o.got z3.apex)=P3 at *
 have hP3:∀p∈P3,p.zone=z3:=by rw[<- hS3];exact my
 have S3:=S2.add (s:=P3) λp hp=>kT S2.val (by rw[dS,az];exact d2.top) (bs _ _ _ _ _ (by decide)) hz3 (hP3 p hp)
 have p1:(aJ o z).puts=P1:=by show o.puts++_++_=_;rw[hp0,List.nil_append,hS1]
 have p2:(aJ (bY (aJ o z)) z2).puts=P2:=by show[]++_++_=_;rw[List.nil_append];exact hS2
 have p3:(aJ (bY (aJ (bY (aJ o z)) z2)) z3).puts=P3:=by show[]++_++_=_;rw[List.nil_append];exact hS3
 have e:(bY (aJ (bY (aJ (bY (aJ o z)) z2)) z3)).stages=((o.stages++(if P1=[]then[]else[P1]))++(if P2=[]then[]else[P2]))++(if P3=[]then[]else[P3]):=by
  show((o.stages++(if (aJ o z).puts=[]then[]else[(aJ o z).puts]))++(if (aJ (bY (aJ o z)) z2).puts=[]then[]else[(aJ (bY (aJ o z)) z2).puts]))++(if (aJ (bY (aJ (bY (aJ o z)) z2)) z3).puts=[]then[]else[(aJ (bY (aJ (bY (aJ o z)) z2)) z3).puts])=_
  rw[p1,p2,p3]
 rw[e];exact⟨_,S3⟩
theorem wX{s z:Bs}(h:(bl s z).1=true):bK s z=true:=by
 unfold bl at h;split at h
 . exact h
 . cases h
theorem Gg{o o2:aX}{x:aY}(h:nj o x=some o2)(hv:ja o.w.zones)(hc:(bz o.w.zones x.zone).2=true)(hz:o.zone=(bz o.w.zones x.zone).1)(hs:o.stages=[])(hk:x.kind=4)(hsp:lS o.w o.zone x.name=true):∃zs,iv o.w x o.since o.till o2.stages zs:=by
 obtain⟨k0,q0,hc0,e0⟩:=mC hv hc;have ez:o.zone=q0.zone:=hz.trans e0;have a0:=(dA hc0).2;have v0:=hv q0 (ar (dA hc0).1);have hnone:fq o.w.zones x.name=none:=by
  cases hn:fq o.w.zones x.name with
  |none=>rfl
  |some y =>
   unfold lS at hsp;simp only[aH,Bool.not_eq_true']at hsp;have:=hsp.2.1;rw[GN hv hn]at this;cases this
 have hne:x.name≠x.zone:=λe=>by rw[e,hc0]at hnone;cases hnone
 have hout:(bl q0.zone.apex x.name).1=false:=by
  unfold lS at hsp;simp only[aH,Bool.not_eq_true',Bool.or_eq_false_iff,Bool.not_eq_false']at hsp;have h1:=hsp.1.2;rw[ez]at h1;cases hu:(bl q0.zone.apex x.name).1 with
  |false=>rfl
  |true=>exact absurd (Kc (wX h1) (wX hu)) (by rw[a0];exact hne)
 unfold nj at h;split at h
 case isFalse=>cases h
 split at h
 . cases h
 rename_i part hpt;unfold nK nL at h;split at h
 . cases h
 rename_i z hz1;cases h;have ap:part.apex=x.name:=by
  rw[eh hpt];unfold nW;rw[dK];rfl
 have gp:∀p∈cF part x.hosts,p.zone=part:=λp hp=>by
  unfold cF at hp;obtain⟨n,hn,rfl⟩:=List.mem_map.1 hp;rfl
 have hser:(gh (wfR (nW o x (wfR o.zone x.zone 4).1) (nW o x (wfR o.zone x.zone 4).1).apex 4).1).n=0:=by
  have hpa:(nW o x (wfR o.zone x.zone 4).1).apex=x.name:=by unfold nW;rw[dK];rfl
  have hval:=(rD hpt).2.2.2.2.1;have hcn:=Nat.le_trans (PZ _ _ _ _ _) (xn (s:=(nW o x (wfR o.zone x.zone 4).1).apex) (k:=4) (bT hval).rising.pw);rw[hpa]at hcn ⊢;have hm:dN (bo (PI o x) x.name 2 o.life (cy o.w x.hosts)) x.name 4 (wfR o.zone x.zone 4).1.life [⟨[],0,(gh (wfR o.zone x.zone 4).1).m⟩]∈(nW o x (wfR o.zone x.zone 4).1).sets:=by
   unfold nW;exact Bm _ _ _ (by show(4:Int)≠1;decide) _ (Da _ _ _ (GF ..) (by show(4:Int)≠7;decide))
  rw[HJ hcn hm (zZ ..)];rfl
 have S1:=(iv.start (x:=x) (since:=o.since) (till:=o.till) hv hs).add (s:=cF part x.hosts) λp hp=>by
  refine .inr (.inr ⟨by rw[gp p hp,ap];exact hnone,hk,by rw[gp p hp];exact ap,?_⟩);rw[gp p hp, <- hser];exact EI hpt
 have t0:mf ((cF part x.hosts).foldl cL o.w.zones) x.zone (bG q0.zone):=(pH hv hc0).fold _ λp hp e=>by rw[gp p hp,ap]at e;exact absurd e hne
 have asp:(sq (cH {o with puts:=cF part x.hosts}) x).apex=x.zone:=by
  unfold sq;rw[dK];show o.zone.apex=_;rw[ez];exact a0
 have hs4:(gh (wfR (sq (cH {o with puts:=cF part x.hosts}) x) x.zone 4).1).n=bG q0.zone:=by
  rw[nX];refine congrArg (λr:ck×Bool=>(gh r.1).n) (((Ao _ _ _ _ (show(4:Int)≠1 by decide) _ _).trans ((rR _ _ _ _ _ (show(4:Int)≠6 by decide)).trans (rR _ _ _ _ _ (show(4:Int)≠2 by decide)))).trans ?_);show wfR (oO (vT x) o.zone) x.zone 4=_
  rw[ez, <- a0];unfold wfR kB oO;dsimp only;rw[List.find?_filter];have:∀s:Signed,decide ((!vT x s)=true/\isF q0.zone.apex 4 s=true)=isF q0.zone.apex 4 s:=λs=>by
   cases hf:isF q0.zone.apex 4 s with
   |false=>simp
   |true =>
    have:s.set.name=q0.zone.apex:=congrArg Prod.fst (qI.1 hf);unfold vT;rw[this,hout];rfl
  simp only[this]
 have S2:=S1.add (s:=cA z o.w.zones++cS z (bu (cH {o with puts:=cF part x.hosts}).got z.apex)) λp hp =>
  kT S1.val (by rw[asp];exact t0) (by rw[asp];exact hs4) hz1 (my p hp)
 have e:(bY (aJ (cH {o with puts:=cF part x.hosts}) z)).stages=(o.stages++(if cF part x.hosts=[]then[]else[cF part x.hosts]))++(if cA z o.w.zones++cS z (bu (cH {o with puts:=cF part x.hosts}).got z.apex)=[]then[]else[cA z o.w.zones++cS z (bu (cH {o with puts:=cF part x.hosts}).got z.apex)]):=by
  rfl
 rw[e];exact⟨_,S2⟩
theorem xY{o:aX}{x:aY}{ad:Datum}{zs:List ai}(hv:ja zs)(hv0:ja o.w.zones)(ht:∀a k q,fq o.w.zones a=some (k,q)->mf zs a (bG q.zone)):∀(l:List Bs) {ps qs:List ai},(∀a∈l,∃p∈o.w.zones,p.zone.apex=a)->iV o x ad l ps=some qs->(∀p∈ps,tT x o.since o.till zs p)-> ∀p∈qs,tT x o.since o.till zs p
 |[],ps,qs,_,h,hp=>by
  unfold iV at h;cases h;exact hp
 |a::t,ps,qs,hl,h,hp=>by
  unfold iV at h;have ih:=λ{ps qs}=>xY (x:=x) (ad:=ad) hv hv0 ht t (ps:=ps) (qs:=qs) λb hb=>hl b (aZ _ hb)
  split at h
  . split at h
    . cases h
    . rename_i z hz;refine ih h λp hp' =>?_
      rw[List.append_assoc]at hp';rcases List.mem_append.1 hp' with hp' |hp'
      . exact hp p hp'
      . obtain⟨q,hq,hqa⟩:=hl a (List.mem_cons_self ..);have hcz:(bz o.w.zones a).2=true:=by
         rcases eF o.w.zones a with ⟨p,_,e,_⟩|⟨_,e⟩
         . rw[e]
         . exact absurd hqa (e q hq)
        obtain⟨k,r,g1,g2⟩:=mC hv0 hcz;refine kT (n:=bG r.zone) hv ?_ ?_ hz (my p hp')
        . rw[dS,g2,(dA g1).2];exact ht a k r g1
        . rw[dS,rR _ _ _ _ _ (show(4:Int)≠1 by decide),g2,nX]
  . exact ih h hp
theorem HU{o o2:aX}{x:aY}{host:Int}(h:oT o x host=some o2)(hv:ja o.w.zones)(hs:o.stages=[]):∃zs,iv o.w x o.since o.till o2.stages zs:=by
 unfold oT at h;split at h
 case isFalse=>cases h
 unfold xZ at h;generalize nf (wfR o.zone x.name 1).1.data host 0 o.w.hosts=om at h;have hap:∀f:ai->Bool,∀a∈cT f o.w.zones,∃p∈o.w.zones,p.zone.apex=a:=λf a ha=>by
  have:=(zX f o.w.zones [] List.nodup_nil).2 a ha;exact this.resolve_left (List.not_mem_nil)
 have hcz:∀a,(∃p∈o.w.zones,p.zone.apex=a)->(bz o.w.zones a).2=true:=λa ⟨q,hq,hqa⟩=>by
  rcases eF o.w.zones a with ⟨p,_,e,_⟩|⟨_,e⟩
  . rw[e]
  . exact absurd hqa (e q hq)
 generalize hgl:dJ o host (cT (λp=>om.contains p.host) o.w.zones)=gl at h
 have g0:∀p∈gl,∃k q,fq o.w.zones p.zone.apex=some (k,q)/\p.zone=q.zone:=λp hp=>by
  rw[<- hgl]at hp;unfold dJ at hp;obtain⟨a,ha,rfl⟩:=List.mem_map.1 hp;obtain⟨k,q,g1,g2⟩:=mC hv (hcz a (hap _ a (List.mem_filter.1 ha).1));refine⟨k,q,?_,g2⟩;dsimp only;rw[g2,(dA g1).2];exact g1
 unfold rP at h;split at h
 . cases h
 rename_i ps hps;cases h;have S1:=(iv.start (x:=x) (since:=o.since) (till:=o.till) hv hs).add (s:=gl) λp hp=>by
  obtain⟨k,q,g1,g2⟩:=g0 p hp;exact .inr (.inl ⟨k,q,g1,.inl g2⟩)
 have ht:∀a k q,fq o.w.zones a=some (k,q)->mf (gl.foldl cL o.w.zones) a (bG q.zone):=λa k q hk=>(pH hv hk).fold _ λp hp e=>by
  obtain⟨k',q',g1,g2⟩:=g0 p hp;rw[e,hk]at g1;cases g1;rw[g2];exact⟨tJ (hv q (ar (dA hk).1)),rfl⟩
 have S2:=S1.add (s:=ps) (xY (o:=cH {o with puts:=gl}) S1.val hv ht _ (λa ha=>hap _ a ha) hps λp hp=>absurd hp (List.not_mem_nil));have S3:=S2.add (s:=eX om o.w.zones) λp hp=>by
  unfold eX at hp;obtain⟨q,hq,rfl⟩:=List.mem_map.1 hp;exact .inl rfl
 have e:(sx {cH {o with puts:=gl}with puts:=ps} om).stages=((o.stages++(if gl=[]then[]else[gl]))++(if ps=[]then[]else[ps]))++(if eX om o.w.zones=[]then[]else[eX om o.w.zones]):=by
  rfl
 rw[e];exact⟨_,S3⟩
theorem LW{w:aL}{x:aY}{since till:Int}{o:aX}(h:mu w x since till=some o)(hvw:eB w=true)(hx:eQ w x=true):∃zs,iv w x since till o.stages zs:=by
 have hv:ja w.zones:=λp hp=>(gY hvw p hp).1
 unfold eQ at hx;simp only[aH,Bool.not_eq_true',Bool.or_eq_false_iff,Bool.not_eq_false']at hx;obtain⟨_,hc,hk⟩:=hx;unfold mu at h;split at h
 case isFalse=>cases h
 unfold tc at h;unfold iW at hk;by_cases k1:x.kind=1
 . rw[if_pos k1]at h;exact Jg h hv hc rfl rfl
 rw[if_neg k1]at h hk;by_cases k2:x.kind=2
 . rw[if_pos k2]at h;exact IZ h hv hc rfl rfl rfl
 rw[if_neg k2]at h hk;by_cases k3:x.kind=3
 . rw[if_pos k3]at h;exact HU h hv rfl
 rw[if_neg k3]at h hk;by_cases k4:x.kind=4
 . rw[if_pos k4]at h;rw[if_pos k4,aH,aH]at hk;exact Gg h hv hc rfl rfl k4 hk.1.1
 rw[if_neg k4]at hk;cases hk
theorem Gd(a:Int):NQ.Fn cx 36 [.int .i64 a] (.d (.bool (nh a))) []:=by
 refine aM aV mixed Tryz.func36 (by kernel_rfl) rfl (ag rfl) ?_;conv=>whnf
 repeat' (first
  |(refine af (λh=>?_) (λh=>?_) <;> (rw[h];conv=>whnf))
  |(refine al rfl ?_;show AV.d (D.bool _)=_;simp only[nh, *, if_true,if_false,aK];done)
  |fail)
theorem Ic(a:Int):NQ.Fn cx 12 [.int .i64 a] (.tuple [.d (.int .i64 (ik a).1),.d (.int .i64 (ik a).2)]) []:=by
 refine aM aV mixed Tryz.func12 (by kernel_rfl) rfl (ag rfl) ?_;conv=>whnf
 (refine⟨_,_,Gd a,?_⟩;conv=>whnf)
 cases h:nh a with
 |false =>
  conv=>whnf
  refine al rfl ?_;rw[ik,if_neg (by rw[h];simp)];rfl
 |true =>
  conv=>whnf
  refine al rfl ?_;rw[ik,if_pos h];have:IntKind.i64.wrap (a+1)=a+1:=wrap_i64 (by simp[nh]at h;omega) (by simp[nh]at h;omega);rw[this];rfl
set_option maxHeartbeats 8000000 in
theorem Mb(w:aL)(x:aY)(since till:Int)(r:Option (List (List ai)))(W:List aL)
 (hHead:NQ.Fn cx 7 [] (.d (.bool true)) [])
 (hSt:NQ.Fn cx 8 [.agg (bn w),.agg (aS x),.int .i64 since,.int .i64 till] (match r with|some l=> .tuple [.d (.slice 1 (l.map bV)),.d (.slice 7 (W.map bn)),.d (.bool true)]|none=> .tuple [.d (.slice 1 []),.d (.slice 7 []),.d (.bool false)]) [])
 (hr:∀l,r=some l->l.length<=3/\ ∀(k:Nat) s,l[k]? =some s->s.length<=2000/\ ∃wk,W[k]? =some wk/\ja wk.zones/\wk.zones.length<=100000/\ ∀p∈s,tT x since till wk.zones p) :
 NQ.Fn cx 3 [.agg (bn w),.agg (aS x),.int .i64 since,.int .i64 till] (.d (.bool true)) []:=by
 refine fC (fun|14=>[66666]|21=>[55555]|22=>[55555]|23=>[55555]|24=>[55555]|25=>[55555]|_=>[]) aV mixed Tryz.func3 (by kernel_rfl) rfl (ag rfl) ?_
 conv=>whnf
 (refine⟨_,_,hHead,?_⟩;conv=>whnf)
 (refine⟨_,_,hSt,?_⟩;conv=>whnf)
 cases r with
 |none =>
  conv=>whnf
  exact al rfl rfl
 |some l =>
 conv=>whnf
 obtain⟨hl3,hq⟩:=hr l rfl;refine⟨Nat,λk=>⟨[(2,.d (.int .i64 since)),(3,.d (.int .i64 till)),(5,.ptr 5 0),(9,.d (.bool true)),(11,.d (.slice 7 (W.map bn))),(42,.d (.slice 1 (l.map bV))),(43,.d (.int .i64 ((l.map bV).length:Int))),(44,.d (.int .i64 k))],[(5,.box ((aS x).map .d))]⟩,λk=>k<=l.length,λk=>l.length-k,
  ⟨0,Nat.zero_le _,aF.keep⟩,?_⟩
 intro k hk
 conv=>whnf
 refine af (λh1=>?_) (λh1=>?_) <;> (rw[h1];conv=>whnf)
 . have hlt:k<l.length:=by simp at h1;omega
   obtain⟨s,hs⟩:∃s,l[k]? =some s:=⟨_,aj hlt⟩
   obtain⟨hsl,wk,hwk,hv,hwl,hP⟩:=hq k s hs;refine⟨aw k,bV s,aD hs,?_⟩
   conv=>whnf
   refine⟨Nat,λj=>⟨[(2,.d (.int .i64 since)),(3,.d (.int .i64 till)),(5,.ptr 5 0),(9,.d (.bool true)),(11,.d (.slice 7 (W.map bn))),(13,.d (.int .i64 k)),(42,.d (.slice 1 (l.map bV))),(43,.d (.int .i64 ((l.map bV).length:Int))),(44,.d (.int .i64 k)),(50,.d (.slice 3 (s.map aC))),(51,.d (.int .i64 ((s.map aC).length:Int))),(52,.d (.int .i64 j))],[(5,.box ((aS x).map .d))]⟩,λj=>j<=s.length,λj=>s.length-j,
    ⟨0,Nat.zero_le _,aF.keep⟩,?_⟩
   intro j hj
   conv=>whnf
   refine af (λh2=>?_) (λh2=>?_) <;> (rw[h2];conv=>whnf)
   . have hjl:j<s.length:=by simp at h2;omega
     obtain⟨p,hp⟩:∃p,s[j]? =some p:=⟨_,aj hjl⟩
     have pa:=hP p (ar hp);refine⟨aw j,aC p,aD hp,?_⟩
     conv=>whnf
     refine af (λh3=>?_) (λh3=>?_) <;> (rw[h3];conv=>whnf)
     . exact⟨j+1,hjl,by(show s.length-(j+1)<s.length-j;omega),aF.keep ⟨ae,ae,ae,ae,ae,ae,ae,ae,ae,ae,ae,⟨an (k:=j) (by omega),rfl⟩,trivial⟩⟩
     have hz:aR p.zone=true:=(pa.val hv).resolve_left λe=>by rw[e]at h3;simp at h3
     have hfew:p.zone.sets.length<=100000:=by have:=(bT hz).few;omega
     refine⟨(by kernel_rfl:bA _=true),?_⟩
     conv=>whnf
     refine⟨aw k,bn wk,aD hwk,?_⟩
     conv=>whnf
     (refine⟨_,_,Nl wk.zones p.zone.apex hv hwl,?_⟩;conv=>whnf)
     apply rV (α:=Int) (P:=λn=>xX since till n p.zone) (canon:=λn=>⟨[(2,.d (.int .i64 since)),(3,.d (.int .i64 till)),(5,.ptr 5 0),(9,.d (.bool true)),(11,.d (.slice 7 (W.map bn))),(13,.d (.int .i64 k)),(17,.ptr 17 0),(18,.d (.int .i64 n)),(42,.d (.slice 1 (l.map bV))),(43,.d (.int .i64 ((l.map bV).length:Int))),(44,.d (.int .i64 k)),(50,.d (.slice 3 (s.map aC))),(51,.d (.int .i64 ((s.map aC).length:Int))),(52,.d (.int .i64 j))],[(5,.box ((aS x).map .d)),(17,.box ((aG p.zone).map .d))]⟩)
     . intro rest;rcases pa with e|⟨kc,q,hc,hor⟩|⟨hc,hk4,hxn,hS⟩
       . rw[e]at h3;simp at h3
       . have hqk:=(dA hc).1;have hvq:=hv q (ar hqk);rw[hc,show OG (some (kc,q))=(kc:Int)from rfl,SO (aw kc)]
         conv=>whnf
         refine⟨aw k,bn wk,aD hwk,?_⟩
         conv=>whnf
         refine⟨aw kc,aC q,aD hqk,?_⟩
         conv=>whnf
         (refine⟨_,_,wS p.zone q.zone hfew (cU hz).2,?_⟩;conv=>whnf)
         by_cases e:p.zone=q.zone
         . rw[decide_eq_true e]
           conv=>whnf
           exact⟨j+1,hjl,by(show s.length-(j+1)<s.length-j;omega),aF.keep ⟨ae,ae,ae,ae,ae,ae,ae,ae,ae,ae,ae,⟨an (k:=j) (by omega),rfl⟩,trivial⟩⟩
         . rw[decide_eq_false e]
           conv=>whnf
           (refine⟨_,_,lR q.zone hvq,?_⟩;conv=>whnf)
           have hS:=hor.resolve_left e;rw[pq hvq]at hS;refine AT ?_ (rest _ hS);exact aF.keep
       . rw[hc]
         conv=>whnf
         rw[show(x.kind != 4)=false by simp[hk4]]
         conv=>whnf
         rw[show(!(p.zone.apex==x.name))=false by simp[hxn]]
         conv=>whnf
         refine AT ?_ (rest 0 hS);exact aF.keep
     intro n hS;unfold App;have fA:=Ic n;have fF:=NB p.zone p.zone.apex 7 hfew;have fK:=qq (wfR p.zone p.zone.apex 7).1;have hkl:(cE (wfR p.zone p.zone.apex 7).1).1.length<=100000:=by
      have:=hS.again;unfold ib at this;split at this
      . exact absurd (congrArg Prod.snd this) (show ¬(1:Int)=0 by decide)
      . rename_i g;unfold od at g;simp at g;omega
     have fL:NQ.Fn cx _ _ _ _:=CO p.zone (cE (wfR p.zone p.zone.apex 7).1).1 since till hkl;have fZ:=wS p.zone p.zone hfew (cU hz).2;have fS:=lR p.zone hz;rw[hS.next]at fA;rw[hS.has]at fF;rw[hS.keys]at fK;rw[hS.again]at fL;rw[decide_eq_true rfl]at fZ;rw[hS.serial]at fS;dsimp only at fL
     conv=>whnf
     (refine⟨_,_,fA,?_⟩;conv=>whnf)
     refine⟨_,aF.keep (sl:=[(2,.d (.int .i64 since)),(3,.d (.int .i64 till)),(5,.ptr 5 0),(9,.d (.bool true)),(11,.d (.slice 7 (W.map bn))),(13,.d (.int .i64 k)),(17,.ptr 17 0),(21,.d (.int .i64 (ik n).1)),(22,.d (.int .i64 0)),(42,.d (.slice 1 (l.map bV))),(43,.d (.int .i64 ((l.map bV).length:Int))),(44,.d (.int .i64 k)),(50,.d (.slice 3 (s.map aC))),(51,.d (.int .i64 ((s.map aC).length:Int))),(52,.d (.int .i64 j))]) (h:=[(5,.box ((aS x).map .d)),(17,.box ((aG p.zone).map .d))]),?_⟩
     conv=>whnf
     (refine⟨_,_,fF,?_⟩;conv=>whnf)
     refine⟨_,aF.keep (sl:=[(2,.d (.int .i64 since)),(3,.d (.int .i64 till)),(5,.ptr 5 0),(9,.d (.bool true)),(11,.d (.slice 7 (W.map bn))),(13,.d (.int .i64 k)),(17,.ptr 17 0),(21,.d (.int .i64 (ik n).1)),(22,.d (.int .i64 0)),(23,.ptr 23 0),(24,.d (.bool true)),(42,.d (.slice 1 (l.map bV))),(43,.d (.int .i64 ((l.map bV).length:Int))),(44,.d (.int .i64 k)),(50,.d (.slice 3 (s.map aC))),(51,.d (.int .i64 ((s.map aC).length:Int))),(52,.d (.int .i64 j))]) (h:=[(5,.box ((aS x).map .d)),(17,.box ((aG p.zone).map .d)),(23,.box ((bJ (wfR p.zone p.zone.apex 7).1).map .d))]),?_⟩
     conv=>whnf
     (refine⟨_,_,fK,?_⟩;conv=>whnf)
     refine⟨_,aF.keep (sl:=[(2,.d (.int .i64 since)),(3,.d (.int .i64 till)),(5,.ptr 5 0),(9,.d (.bool true)),(11,.d (.slice 7 (W.map bn))),(13,.d (.int .i64 k)),(17,.ptr 17 0),(21,.d (.int .i64 (ik n).1)),(22,.d (.int .i64 0)),(24,.d (.bool true)),(25,.d (.slice 2 ((cE (wfR p.zone p.zone.apex 7).1).1.map cQ))),(26,.d (.int .i64 0)),(42,.d (.slice 1 (l.map bV))),(43,.d (.int .i64 ((l.map bV).length:Int))),(44,.d (.int .i64 k)),(50,.d (.slice 3 (s.map aC))),(51,.d (.int .i64 ((s.map aC).length:Int))),(52,.d (.int .i64 j))]) (h:=[(5,.box ((aS x).map .d)),(17,.box ((aG p.zone).map .d))]),?_⟩
     conv=>whnf
     (refine⟨_,_,fL,?_⟩;conv=>whnf)
     refine⟨_,aF.keep (sl:=[(2,.d (.int .i64 since)),(3,.d (.int .i64 till)),(5,.ptr 5 0),(9,.d (.bool true)),(11,.d (.slice 7 (W.map bn))),(13,.d (.int .i64 k)),(17,.ptr 17 0),(21,.d (.int .i64 (ik n).1)),(22,.d (.int .i64 0)),(24,.d (.bool true)),(26,.d (.int .i64 0)),(27,.ptr 27 0),(28,.d (.int .i64 0)),(42,.d (.slice 1 (l.map bV))),(43,.d (.int .i64 ((l.map bV).length:Int))),(44,.d (.int .i64 k)),(50,.d (.slice 3 (s.map aC))),(51,.d (.int .i64 ((s.map aC).length:Int))),(52,.d (.int .i64 j))]) (h:=[(5,.box ((aS x).map .d)),(17,.box ((aG p.zone).map .d)),(27,.box ((aG p.zone).map .d))]),?_⟩
     conv=>whnf
     (refine⟨_,_,fZ,?_⟩;conv=>whnf)
     (refine⟨_,_,fS,?_⟩;conv=>whnf)
     rw[show((ik n).1 != (ik n).1)=false by simp]
     conv=>whnf
     exact⟨j+1,hjl,by(show s.length-(j+1)<s.length-j;omega),aF.keep ⟨ae,ae,ae,ae,ae,ae,ae,ae,ae,ae,ae,⟨an (k:=j) (by omega),rfl⟩,trivial⟩⟩
   . obtain rfl:j=s.length:=by simp at h2;omega
     exact⟨k+1,hlt,by(show l.length-(k+1)<l.length-k;omega),aF.keep ⟨ae,ae,ae,ae,ae,ae,ae,⟨an (k:=k) (by omega),rfl⟩,trivial⟩⟩
 . exact al rfl rfl
theorem Gy{w:aL}{l:List (List ai)}{k n:Nat}(h:k<=n):(kq w l n)[k]? =some (fV w l k):=by
 unfold kq;rw[aN,List.getElem?_range (by omega)];rfl
theorem Ck(w:aL)(x:aY)(since:Int)(b2:(Lit.int .i64 since).wf=true)(till:Int)(b3:(Lit.int .i64 till).wf=true):NQ.Fn cx 3 [.agg (bn w),.agg (aS x),.int .i64 since,.int .i64 till] (.d (.bool true)) []:=by
 have hSt:=Gk w x since till;refine Mb w x since till (kn w x since till) ((kn w x since till).elim [] λl=>kq w l l.length) Ll ?_ λl hl=>?_
 . cases hs:kn w x since till with
   |none=>rw[hs]at hSt;exact hSt
   |some l=>rw[hs]at hSt;exact hSt
 . rw[hl];obtain⟨o,rfl,ho,hfw,hx,hvw,_,_⟩:=JR hl;have hn20:=(sP hfw).2.2.1;have hok:=(Hu ho hvw hx hn20).1;obtain⟨zs,hsl⟩:=LW ho hvw hx;refine⟨hok.num,λk s hs=>⟨(hok.st s (ar hs)).2.1,fV w o.stages k,Gy (Nat.le_of_lt (aq.1 hs).1),?_⟩⟩;have hk:=(aq.1 hs).1;have hlen:=rL (w:=w) (λs hs=>(hok.st s hs).2.1) k (Nat.le_of_lt hk);have hmul:k*2000<=3*2000:=Nat.mul_le_mul_right _ (by have:=hok.num;omega);have hz:(fV w o.stages k).zones=xT w (o.stages.take k):=Ko w _;obtain⟨h1,h2⟩:=hsl.puts k s hs;rw[<- hz]at h1 h2;exact⟨h1,by omega,h2⟩
end Go.Proofs.YtodofogcincleaaGreatDoor
