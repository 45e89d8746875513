/-
  Merged texts.
-/
import Derived.Test.YtodofogcincleaaGreatDoorYzpM
import Derived.Test.YtodofogcincleaaGreatDoorYzoM
set_option linter.all false
set_option maxHeartbeats 8000000
set_option maxRecDepth 100000
namespace Go.Proofs.YtodofogcincleaaGreatDoor
open NQ Go.RowKit
def tY(n:Bs)(t:Int)(d:Datum):Signed:=⟨⟨n,t,9,[d]⟩,[]⟩
def Ut:aO:=⟨[46],[tY [46] 2 ⟨[97],0,0⟩,tY [46] 4 ⟨[],4,0⟩,tY [46] 7 ⟨[],1,1⟩,tY [120] 2 ⟨[98],0,0⟩,tY [120] 6 ⟨[],2,1⟩]⟩
def x34:aO:=⟨[120],[tY [120] 2 ⟨[98],0,0⟩,tY [120] 4 ⟨[],7,0⟩,tY [120] 7 ⟨[],2,1⟩]⟩
def exV:aZ:=⟨[⟨[97],1,0⟩,⟨[98],2,0⟩,⟨[99],3,0⟩],[⟨0,Ut⟩,⟨1,x34⟩],⟨[46],6,0,[⟨[],1,1⟩]⟩,[1]⟩
def oC(n:Int):bA:=⟨1,[120],[],[n],⟨0,0⟩⟩
def oB(z:Bs)(n:Int):bA:=⟨2,z,[],[],⟨n,1⟩⟩
def lY(p:ao):Int×Bs×Int:=(p.host,p.ah.af,if p.ah.ak=[]then -1 else fP p.ah)
def pK(h:kb):Int×Bs×Int:=(h.owner,h.name,h.addr)
def okP(p:ao):Bool:=decide (p.ah.ak=[])||bf p.ah
def GG(o:Option bz):List (List (Int×Bs×Int))×Bool:=match o with
 |some o=>(o.bp.map λs=>s.map lY,o.bp.all λs=>s.all okP)
 |none=>([],false)
def pY(s:List ao)(l:List kb):Bool:=decide (s.map lY=l.map pK)
theorem nn:va exV:=⟨by decide,by decide,by decide,λp hp=>by
 rcases List.mem_cons.1 hp with rfl|hp
 .kernel_rfl
 .rcases List.mem_cons.1 hp with rfl|hp
  .kernel_rfl
  .cases hp⟩
theorem rD:fm exV=true:=by kernel_rfl
theorem UO:fQ exV (oB [120] 3)=true:=by kernel_rfl
theorem UP:fQ exV (oB [46] 3)=false:=by kernel_rfl
theorem TV:GG (nf exV (oC 2) 0 100)=([[(2,[120],7)],[(1,[120],8),(2,[120],8),(0,[46],5)],[(1,[120], -1)]],true):=by kernel_rfl
theorem TU:GG (nf exV (oB [120] 3) 0 100)=([[(1,[120],8)],[(0,[46],5)],[(1,[120],9)]],true):=by kernel_rfl
theorem PK:mC exV (oC 2) 0 100=false:=by kernel_rfl
theorem PL:mC exV (oB [120] 3) 0 100=false:=by kernel_rfl
theorem PM:mC exV (oC 2) 100 0=true:=by kernel_rfl
theorem TP:qM exV (oC 2)=false:=by kernel_rfl
theorem TQ:qM exV (oC 1)=true:=by kernel_rfl
theorem TR:sZ exV (oB [120] 2)=true:=by kernel_rfl
theorem TS:gR exV [2]=true:=by kernel_rfl
theorem TT:gR exV [1]=true:=by kernel_rfl
noncomputable def DN:Cx:={cx with bld:=[10,20,31,36,42,44,46]}
theorem Sa:bD DN:=bo
theorem FW:DN.P.follows .mixedOrders=true:=mixed
theorem lX(n:Bs)(t:Int)(d:Datum):NQ.Fn cx 60 [.str n,.int .i64 t,.agg (aQ d)] (.agg ((aw (tY n t d)).map .d)) []:=by
 show NQ.Fn DN _ _ _ _
 refine eR (λ_=>[]) Sa FW Tryz.func60 ?_;conv=>whnf
 exact al rfl rfl
theorem Fg:NQ.Fn cx 28 [] (.agg ((bu exV).map .d)) []:=by
 show NQ.Fn DN _ _ _ _
 refine eR (λ_=>[]) Sa FW Tryz.func28 ?_;conv=>whnf
 (refine⟨_,_,lX [46] 2 ⟨[97],0,0⟩,?_⟩;conv=>whnf)
 (refine⟨_,_,lX [46] 4 ⟨[],4,0⟩,?_⟩;conv=>whnf)
 (refine⟨_,_,lX [46] 7 ⟨[],1,1⟩,?_⟩;conv=>whnf)
 (refine⟨_,_,lX [120] 2 ⟨[98],0,0⟩,?_⟩;conv=>whnf)
 (refine⟨_,_,lX [120] 6 ⟨[],2,1⟩,?_⟩;conv=>whnf)
 (refine⟨_,_,lX [120] 2 ⟨[98],0,0⟩,?_⟩;conv=>whnf)
 (refine⟨_,_,lX [120] 4 ⟨[],7,0⟩,?_⟩;conv=>whnf)
 (refine⟨_,_,lX [120] 7 ⟨[],2,1⟩,?_⟩;conv=>whnf)
 exact al rfl rfl
theorem NZ{s:List ao}{l:List kb}(h:s.length≠l.length):pY s l=false:=by
 unfold pY;rw[decide_eq_false_iff_not];intro e;have:=congrArg List.length e;simp at this;exact h this
theorem qq(s:List ao)(l:List kb)(hs:s.length<=100000)(hv:∀p∈s,p.ah.ak≠[]->bf p.ah=true):NQ.Fn cx 30 [.agg (dC s),.slice 3 (l.map fJ)] (.d (.bool (pY s l))) []:=by
 refine aT bo mixed Tryz.func30 ?_;conv=>whnf
 refine aj (λh0=>?_) (λh0=>?_) <;> (rw[h0];conv=>whnf)
 .exact al rfl (by rw[NZ (by intro e;simp[e]at h0)];rfl)
 have hlen:s.length=l.length:=by(have:(s.length:Int)=l.length:=by simpa using h0);omega
 refine⟨Nat,λk=>⟨[(1,.d (.slice 3 (l.map fJ))),(2,.ptr 2 0),(15,.d (.slice 3 (s.map aR))),(16,.d (.int .i64 ((s.map aR).length:Int))),(17,.d (.int .i64 k))],[(2,.box [.d (.slice 3 (s.map aR))])]⟩,λk=>k<=s.length/\(s.take k).map lY=(l.take k).map pK,λk=>s.length-k,
  ⟨0,⟨Nat.zero_le _,rfl⟩,aK.keep⟩,?_⟩
 rintro k ⟨hk,hI⟩;conv=>whnf
 refine aj (λh1=>?_) (λh1=>?_) <;> (rw[h1];conv=>whnf)
 .have hC:k<s.length:=by simp at h1;omega
  obtain⟨p,hp⟩:∃p,s[k]? =some p:=⟨_,au hC⟩
  obtain⟨ho,hh⟩:∃ho,l[k]? =some ho:=⟨_,au (by omega)⟩
  have kB:lY p≠pK ho->pY s l=false:=λhA=>by
   unfold pY;rw[decide_eq_false_iff_not];intro e;have:=congrArg (λq=>q[k]?) e;simp only[bc,hp,hh,Option.map_some,Option.some.injEq]at this;exact hA this
  have kt:lY p=pK ho->(s.take (k+1)).map lY=(l.take (k+1)).map pK:=λe=>by
   rw[bO hp,bO hh,List.map_append,List.map_append,hI];simp[e]
  refine⟨aC k,aR p,aM hp,?_⟩;conv=>whnf
  have again:∀kH:Int,kH=(if p.ah.ak=[]then -1 else fP p.ah)->(((p.host != ho.owner)|| !(p.ah.af==ho.name))||(kH != ho.addr))= !(decide (lY p=pK ho)):=λkH xc=>by
   unfold lY pK;rw[<- xc];by_cases e1:p.host=ho.owner <;> by_cases e2:p.ah.af=ho.name <;> by_cases e3:kH=ho.addr <;> simp[e1,e2,e3]
  refine aj (λh2=>?_) (λh2=>?_) <;> (rw[h2];conv=>whnf)
  .have hA:p.ah.ak≠[]:=by intro e;simp[e]at h2
   (refine⟨_,_,sB p.ah (hv p (aD hp) hA),?_⟩;conv=>whnf)
   have again:=again (fP p.ah) (by rw[if_neg hA])
   (refine bV ?_;conv=>whnf)
   repeat' (first
    |(refine⟨aC k,fJ ho,aM hh,?_⟩;conv=>whnf)
    |(refine aj (λh=>?_) (λh=>?_) <;> (rw[h];conv=>whnf))|fail)
   all_goals first
    | exact al rfl (by
        have hq:(!(decide (lY p=pK ho)))=true:=by rw[<- again];simp only[*, if_true,if_false,aY]
        rw[kB (by simpa using hq)];rfl)
    | exact ⟨k + 1, ⟨hC, kt (by
        have hq:(!(decide (lY p=pK ho)))=false:=by rw[<- again];simp only[*, if_true,if_false,aY]
        simpa using hq)⟩,by(show s.length-(k+1)<s.length-k;omega),aK.keep ⟨ae,ae,ae,ae,⟨ax (k:=k) (by omega),rfl⟩,trivial⟩⟩
    |fail
  .have hA:p.ah.ak=[]:=by
    cases e:p.ah.ak with
    |nil=>rfl
    |cons a t=>rw[e]at h2;simp at h2
   have again:=again (-1) (by rw[if_pos hA])
   (refine bV ?_;conv=>whnf)
   repeat' (first
    |(refine⟨aC k,fJ ho,aM hh,?_⟩;conv=>whnf)
    |(refine aj (λh=>?_) (λh=>?_) <;> (rw[h];conv=>whnf))|fail)
   all_goals first
    | exact al rfl (by
        have hq:(!(decide (lY p=pK ho)))=true:=by rw[<- again];simp only[*, if_true,if_false,aY]
        rw[kB (by simpa using hq)];rfl)
    | exact ⟨k + 1, ⟨hC, kt (by
        have hq:(!(decide (lY p=pK ho)))=false:=by rw[<- again];simp only[*, if_true,if_false,aY]
        simpa using hq)⟩,by(show s.length-(k+1)<s.length-k;omega),aK.keep ⟨ae,ae,ae,ae,⟨ax (k:=k) (by omega),rfl⟩,trivial⟩⟩
    |fail
 .obtain rfl:k=s.length:=by simp at h1;omega
  refine al rfl ?_;have:pY s l=true:=by
   unfold pY;rw[decide_eq_true_iff, <- List.take_length (l:=s),hI,hlen,List.take_length]
  rw[this];rfl
end Go.Proofs.YtodofogcincleaaGreatDoor
namespace NQ
open Go
theorem Ag{cx cx' :Cx}(h1:cx'.P=cx.P)(h2:cx'.gl=cx.gl){f:FuncId}{args:List AV}{ι:Type}{res:ι->AV}{bs:ι->List (Nat×Blk)}(h:FnC cx f args res bs):FnC cx' f args res bs:=by
 unfold FnC gq jC at *
 rw[h1,h2];exact h
theorem FnC.xv{cx:Cx}{f:FuncId}{args hM:List AV}{ι:Type}{res:ι->AV}{bs:ι->List (Nat×Blk)}(h:FnC cx f hM res bs)(e:hM=args.map dn2):FnC cx f args res bs:=by
 subst e;refine⟨h.1,λO w vs hO hG xZ yn xb=>h.2 O w vs hO hG xZ (by rw[yn,aA]) λj c hj=>?_⟩;rw[bc]at hj;cases hc:args[j]? with
 |none=>rw[hc]at hj;cases hj
 |some c0=>rw[hc]at hj;cases hj;exact xg (xb j c0 hc)
end NQ
namespace Go.Proofs.YtodofogcincleaaGreatDoor
open NQ Go.RowKit
theorem Gt{z:aO}(hz:bf z=true):SmJ z:=by
 refine⟨by have:=(dz hz).1;omega,λs k=>?_⟩;cases h:(wfR z s k).2 with
 |true=>have:=sk hz h;omega
 |false =>
  unfold wfR at h ⊢;split at h
  .cases h
  .exact Nat.zero_le _
noncomputable def BJ:Cx:={cx with chg:=gX [(29,7)],bld:=[18,54,63,71,80,88,96,107]}
theorem Vm:bD BJ:=bo
theorem SU:BJ.P.follows .mixedOrders=true:=mixed
theorem Dk{r:Option bz}{a b c:List (Int×Bs×Int)}(h:GG r=([a,b,c],true)):∃o s0 s1 s2,r=some o/\o.bp=[s0,s1,s2]/\s0.map lY=a/\s1.map lY=b/\s2.map lY=c/\(∀p∈s0,p.ah.ak≠[]->bf p.ah=true)/\(∀p∈s1,p.ah.ak≠[]->bf p.ah=true)/\ ∀p∈s2,p.ah.ak≠[]->bf p.ah=true:=by
 cases r with
 |none=>unfold GG at h;simp at h
 |some o =>
  unfold GG at h;simp only[Prod.mk.injEq]at h;obtain⟨h1,h2⟩:=h
  match kD:o.bp,h1 with
  |[s0,s1,s2],h1 =>
   rw[kD]at h2;simp only[List.map_cons,List.map_nil,List.cons.injEq,and_true]at h1;simp only[List.all_cons,List.all_nil,iG,aU]at h2;have key:∀s:List ao,s.all okP=true-> ∀p∈s,p.ah.ak≠[]->bf p.ah=true:=λs hs p hp hA=>by
    have:=aI.1 hs p hp;unfold okP at this;simpa [hA] using this
   exact⟨o,s0,s1,s2,rfl,kD,h1.1,h1.2.1,h1.2.2,key s0 h2.1,key s1 h2.2.1,key s2 h2.2.2⟩
theorem oF{s:List ao}{l:List kb}(h:s.map lY=l.map pK):pY s l=true:=by
 unfold pY;rw[h];exact decide_eq_true rfl
theorem td{s:List ao}{a:List (Int×Bs×Int)}(h:s.map lY=a):s.length=a.length:=by rw[<- h,aA]
theorem Gb(w:aZ)(n:Int)(h:bJ w n=true):∀m∈[n],bJ w m=true:=λm hm=>by rw[List.mem_singleton.1 hm];exact h
theorem Nj:NQ.Fn cx 7 [] (.d (.bool true)) []:=by
 show NQ.Fn BJ _ _ _ _
 have xV:=Ag (cx' :=BJ) rfl rfl (qh exV (oC 2) 0 100 nn (by decide));have xW:=Ag (cx' :=BJ) rfl rfl (qh exV (oB [120] 3) 0 100 nn (by decide));have xX:=Ag (cx' :=BJ) rfl rfl (qh exV (oC 2) 100 0 nn (by decide));have hz:∀p∈exV.ai,bf p.ah=true:=λp hp=>(gN rD p hp).1
 have c1:SmJ (bS exV.ai [120]).1:=Gt (by kernel_rfl);have c2:SmJ (cH exV.ai [120]).1:=Gt (by kernel_rfl);have kI:=jo (args:=[.agg (bu exV),.agg (bj (oC 2))]) (CE exV (oC 2) nn rD rfl TS (Gb _ _ (by decide)) (by decide) c1 c2);have kK:=jo (args:=[.agg (bu exV),.agg (bj (oC 1))]) (CE exV (oC 1) nn rD rfl TT (Gb _ _ (by decide)) (by decide) c1 c2);have kL:=jo (args:=[.agg (bu exV),.agg (bj (oB [120] 2))]) (MQ exV (oB [120] 2) nn rD rfl (λp hp=>Gt (hz p hp)) c2);have kf:=jo (args:=[.agg (bu exV),.agg (bj (oB [120] 3))]) (pL exV (oB [120] 3) nn)
 have kg:=jo (args:=[.agg (bu exV),.agg (bj (oB [46] 3))]) (pL exV (oB [46] 3) nn);rw[TP]at kI;rw[TQ]at kK;rw[TR]at kL;rw[UO]at kf;rw[UP]at kg;obtain⟨om,m0,m1,m2,rm,em,kU,kV,kW,xR,xS,xT⟩:=Dk TV;obtain⟨ok,k0,k1,k2,rk,ek,kR,kS,km,xO,xP,xQ⟩:=Dk TU;have gm:∀q,jc exV (oC 2) 0 100 q->q=([m0,m1,m2],0):=λq hq=>by
  unfold jc at hq;rw[if_neg (by rw[PK];decide),rm]at hq;rw[hq,em]
 have gk:∀q,jc exV (oB [120] 3) 0 100 q->q=([k0,k1,k2],0):=λq hq=>by
  unfold jc at hq;rw[if_neg (by rw[PL];decide),rk]at hq;rw[hq,ek]
 have gb:∀q,jc exV (oC 2) 100 0 q->q=([],1):=λq hq=>by
  unfold jc at hq
  rwa [if_pos PM]at hq
 have xo:=qq m0 [⟨[120],7,2⟩] (by rw[td kU];decide) xR;have xp:=qq m1 [⟨[120],8,1⟩,⟨[120],8,2⟩,⟨[46],5,0⟩] (by rw[td kV];decide) xS;have xq:=qq m2 [⟨[120], -1,1⟩] (by rw[td kW];decide) xT;have xl:=qq k0 [⟨[120],8,1⟩] (by rw[td kR];decide) xO;have xm:=qq k1 [⟨[46],5,0⟩] (by rw[td kS];decide) xP;have xn:=qq k2 [⟨[120],9,1⟩] (by rw[td km];decide) xQ;rw[oF kU]at xo;rw[oF kV]at xp;rw[oF kW]at xq;rw[oF kR]at xl;rw[oF kS]at xm;rw[oF km]at xn;clear xR xS xT xO xP xQ kU kV kW kR kS km rm rk em ek hz c1 c2
 refine eR (fun|3=>[88888]|5=>[88888]|13=>[88888]|_=>[]) Vm SU Tryz.func7 ?_;conv=>whnf
 (refine⟨_,_,Fg,?_⟩;conv=>whnf)
 refine⟨_,_,_,⟨xV,λi=>⟨rfl,rfl⟩⟩,?_⟩;rintro⟨q,hq⟩;obtain rfl:=gm q hq;dsimp only;conv=>whnf
 refine⟨_,_,_,⟨FnC.xv xW rfl,λi=>⟨rfl,rfl⟩⟩,?_⟩;rintro⟨q,hq⟩;obtain rfl:=gk q hq;dsimp only;conv=>whnf
 repeat' (first
  |(refine⟨Int.le_refl 0,dC m0,rfl,?_⟩;conv=>whnf)
  |(refine⟨by decide,dC m1,rfl,?_⟩;conv=>whnf)
  |(refine⟨by decide,dC m2,rfl,?_⟩;conv=>whnf)
  |(refine⟨Int.le_refl 0,dC k0,rfl,?_⟩;conv=>whnf)
  |(refine⟨by decide,dC k1,rfl,?_⟩;conv=>whnf)
  |(refine⟨by decide,dC k2,rfl,?_⟩;conv=>whnf)
  |(refine⟨_,_,xo,?_⟩;conv=>whnf)
  |(refine⟨_,xo,by kernel_rfl,?_⟩;conv=>whnf)
  |(refine⟨_,_,xp,?_⟩;conv=>whnf)
  |(refine⟨_,xp,by kernel_rfl,?_⟩;conv=>whnf)
  |(refine⟨_,_,xq,?_⟩;conv=>whnf)
  |(refine⟨_,xq,by kernel_rfl,?_⟩;conv=>whnf)
  |(refine⟨_,_,xl,?_⟩;conv=>whnf)
  |(refine⟨_,xl,by kernel_rfl,?_⟩;conv=>whnf)
  |(refine⟨_,_,xm,?_⟩;conv=>whnf)
  |(refine⟨_,xm,by kernel_rfl,?_⟩;conv=>whnf)
  |(refine⟨_,_,xn,?_⟩;conv=>whnf)
  |(refine⟨_,xn,by kernel_rfl,?_⟩;conv=>whnf)
  |(refine⟨_,_,kI,?_⟩;conv=>whnf)
  |(refine⟨_,kI,by kernel_rfl,?_⟩;conv=>whnf)
  |(refine⟨_,_,kK,?_⟩;conv=>whnf)
  |(refine⟨_,kK,by kernel_rfl,?_⟩;conv=>whnf)
  |(refine⟨_,_,kL,?_⟩;conv=>whnf)
  |(refine⟨_,kL,by kernel_rfl,?_⟩;conv=>whnf)
  |(refine⟨_,_,kf,?_⟩;conv=>whnf)
  |(refine⟨_,kf,by kernel_rfl,?_⟩;conv=>whnf)
  |(refine⟨_,_,kg,?_⟩;conv=>whnf)
  |(refine⟨_,kg,by kernel_rfl,?_⟩;conv=>whnf)
  |fail)
 refine⟨_,_,_,⟨FnC.xv xX rfl,λi=>⟨rfl,rfl⟩⟩,?_⟩;rintro⟨q,hq⟩;obtain rfl:=gb q hq;dsimp only;conv=>whnf
 repeat' (first
  |(refine⟨_,_,kf,?_⟩;conv=>whnf)
  |(refine⟨_,kf,by kernel_rfl,?_⟩;conv=>whnf)
  |(refine⟨_,_,kg,?_⟩;conv=>whnf)
  |(refine⟨_,kg,by kernel_rfl,?_⟩;conv=>whnf)
  |fail)
 exact al rfl rfl
def fZ(w:aZ)(l:List (List ao))(k:Nat):aZ:=(l.take k).foldl jk w
def gV(w:aZ)(l:List (List ao))(k:Nat):List aZ:=(List.range (k+1)).map (fZ w l)
theorem wV{w:aZ}{l:List (List ao)}{k:Nat}{s:List ao}(h:l[k]? =some s):fZ w l (k+1)=jk (fZ w l k) s:=by
 unfold fZ;rw[List.take_add_one,h,List.foldl_append];rfl
theorem GX(w:aZ)(l:List (List ao)):fZ w l 0=w:=rfl
theorem GY(w:aZ)(l:List (List ao))(k:Nat):gV w l (k+1)=gV w l k++[fZ w l (k+1)]:=by
 unfold gV;rw[List.range_succ,List.map_append];rfl
theorem sL{w:aZ}{l:List (List ao)}(hl:∀s∈l,s.length<=2000):∀k,k<=l.length->(fZ w l k).ai.length<=w.ai.length+k*2000
 |0,_=>by rw[GX];omega
 |k+1,h=>by
  have ih:=sL (w:=w) hl k (by omega);obtain⟨s,hs⟩:∃s,l[k]? =some s:=⟨_,au (by omega)⟩
  rw[wV hs];have h1:=vf s (fZ w l k).ai;have h2:=hl s (aD hs);show(s.foldl cn (fZ w l k).ai).length<=_
  omega
def qZ(w:aZ)(x:bA):Bool:= !(((!mW w||decide ((x.ay.length:Int)>20))||decide ((x.ah.length:Int)>100))||decide ((x.name.length:Int)>100))
def jg(w:aZ)(x:bA)(since aN:Int):Option (List (List ao)):=if qZ w x=true then(if mC w x since aN=true then none else match nf w x since aN with
 |some o=>some o.bp
 |none=>none)else none
theorem Bi{w:aZ}{x:bA}{since aN:Int}{l:List (List ao)}(h:jg w x since aN=some l):∃o,o.bp=l/\nf w x since aN=some o/\mW w=true/\fQ w x=true/\fm w=true/\x.ah.length<=100/\mC w x since aN=false:=by
 unfold jg at h;split at h
 case isFalse=>cases h
 rename_i h1;split at h
 .cases h
 rename_i h2;split at h
 case h_2=>cases h
 rename_i o ho;cases h;have h2:mC w x since aN=false:=by simpa using h2
 have hx:fQ w x=true:=by
  have:=h2;unfold mC at this;simp only[Bool.or_eq_false_iff,Bool.not_eq_false']at this;exact this.1.1.1
 have hE:fm w=true:=by
  have:=hx;unfold fQ at this;simp only[aU,Bool.not_eq_true',Bool.or_eq_false_iff,Bool.not_eq_false']at this;exact this.1.1
 unfold qZ at h1;simp only[Bool.not_eq_true',Bool.or_eq_false_iff,Bool.not_eq_false',decide_eq_false_iff_not]at h1;exact⟨o,rfl,ho,h1.1.1.1,hx,hE,by omega,h2⟩
noncomputable def vy:Cx:={cx with chg:=gX [(29,7)],bld:=[]}
theorem UE:bD vy:=bo
theorem NK:vy.P.follows .mixedOrders=true:=mixed
def Ts(w:aZ):Option (List (List ao))->AV
 |some l=> .tuple [.d (.slice 1 (l.map dC)),.d (.slice 7 ((gV w l l.length).map bu)),.d (.bool true)]
 |none=> .tuple [.d (.slice 1 []),.d (.slice 7 []),.d (.bool false)]
theorem Iz(w:aZ)(x:bA)(since aN:Int):NQ.Fn cx 8 [.agg (bu w),.agg (bj x),.int .i64 since,.int .i64 aN] (Ts w (jg w x since aN)) []:=by
 show NQ.Fn vy _ _ _ _
 refine eR (fun|3=>[88888]|13=>[48]|_=>[]) UE NK Tryz.func8 ?_;have hS:mW w=true->FnC vy 29 [.agg ((bu w).map .d),.agg ((bj x).map .d),.d (.int .i64 since),.d (.int .i64 aN)] (ι:={q:List (List ao)×Int // jc w x since aN q}) (λq=> .tuple [.d (.slice 1 (q.1.1.map dC)),.d (.int .i64 q.1.2)]) (λ_=>[]):=λh=>Ag (cx' :=vy) rfl rfl (qh w x since aN (ub h).1 (ub h).2.2.1)
 conv=>whnf
 (refine⟨_,_,Sw w,?_⟩;conv=>whnf)
 have kh:qZ w x=false->jg w x since aN=none:=λh=>by unfold jg;rw[if_neg (by rw[h];decide)]
 repeat' (first|(refine aj (λh=>?_) (λh=>?_) <;> (rw[h];conv=>whnf))|fail)
 all_goals first
  |exact al rfl (by rw[kh (by unfold qZ;(try simp only[aA]at *);simp only[*, if_true,if_false,aY])];rfl)
  |skip
 have xJ:qZ w x=true:=by unfold qZ;(try simp only[aA]at *);simp only[*, if_true,if_false,aY]
 have kl:mW w=true:=by
  have:=xJ;unfold qZ at this;simp only[Bool.not_eq_true',Bool.or_eq_false_iff,Bool.not_eq_false']at this;exact this.1.1.1
 have hZ:=(ub kl).2.2.1;refine⟨_,_,_,⟨hS kl,λi=>⟨rfl,rfl⟩⟩,?_⟩;rintro⟨⟨l,e⟩,hq⟩;dsimp only;conv=>whnf
 unfold jc at hq;have hL:jg w x since aN=if mC w x since aN=true then none else match nf w x since aN with
  |some o=>some o.bp
  |none=>none:=by unfold jg;rw[if_pos xJ]
 rw[hL];clear hL kh hS;by_cases hb:mC w x since aN=true
 .rw[if_pos hb]at hq ⊢;cases hq;conv=>whnf
  exact al rfl rfl
 rw[if_neg hb]at hq ⊢;cases hr:nf w x since aN with
 |none =>
  rw[hr]at hq;obtain⟨e1,e2⟩:=hq;dsimp only at e1 e2;rw[show(e != 0)=true by simpa using e2];conv=>whnf
  exact al rfl rfl
 |some o =>
  rw[hr]at hq;cases hq;dsimp only;conv=>whnf
  have xz :mC w x since aN=false:=by simpa using hb
  have hx:fQ w x=true:=by
   have:=xz;unfold mC at this;simp only[Bool.or_eq_false_iff,Bool.not_eq_false']at this;exact this.1.1.1
  have hE:fm w=true:=by
   have:=hx;unfold fQ at this;simp only[aU,Bool.not_eq_true',Bool.or_eq_false_iff,Bool.not_eq_false']at this;exact this.1.1
  have ko:=(JI hr hE hx hZ).1;have kZ:=ko.num;have hlen:∀s∈o.bp,s.length<=2000:=λs hs=>(ko.st s hs).2.1
  clear ko hr hb xz hx hE;generalize o.bp=l at kZ hlen ⊢;refine⟨Nat×aZ×List aZ,λq=>⟨[(4,.ptr 4 0),(11,.d (.slice 1 (l.map dC))),(13,.own 48),(49,.d (.slice 1 (l.map dC))),(50,.d (.int .i64 ((l.map dC).length:Int))),(51,.d (.int .i64 q.1))],[(48,.row 29 7 (q.2.2.map bu)),(4,.box ((bu q.2.1).map .d))]⟩,λq=>q.1<=l.length/\q.2.1=fZ w l q.1/\q.2.2=gV w l q.1,λq=>l.length-q.1,
   ⟨(0,w,[w]),⟨Nat.zero_le _,rfl,rfl⟩,aK.keep⟩,?_⟩
  rintro⟨k,wk,W⟩ ⟨hk,xi,hW⟩;dsimp only at hk xi hW;conv=>whnf
  refine aj (λh1=>?_) (λh1=>?_) <;> (rw[h1];conv=>whnf)
  .have hC:k<l.length:=by simp at h1;omega
   obtain⟨s,hs⟩:∃s,l[k]? =some s:=⟨_,au hC⟩
   have yw:=hlen s (aD hs);have kF:=sL (w:=w) hlen k hk;rw[<- xi]at kF;have hmul:k*2000<=3*2000:=Nat.mul_le_mul_right _ (by omega);have yv:W.length=k+1:=by rw[hW];unfold gV;simp
   refine⟨aC k,dC s,aM hs,?_⟩;conv=>whnf
   (refine⟨_,_,Mq wk s (by omega),?_⟩;conv=>whnf)
   refine⟨by simp;omega,by simp;omega,?_⟩;conv=>whnf
   have e1:fZ w l (k+1)=jk wk s:=by rw[wV hs,xi]
   have e2:W++[jk wk s]=gV w l (k+1):=by rw[GY,hW,e1]
   refine⟨(k+1,jk wk s,W++[jk wk s]),⟨hC,e1.symm,e2⟩,by(show l.length-(k+1)<l.length-k;omega),aK.keep ⟨ae,ae,ae,ae,ae,⟨ax (k:=k) (by omega),rfl⟩,trivial⟩ ⟨⟨?_,rfl⟩,(by repeat' (first|exact trivial|refine⟨ae,?_⟩))⟩⟩;show _=some (Blk.row 29 7 ((W++[jk wk s]).map bu))
   rw[List.map_append];rfl
  .obtain rfl:k=l.length:=by simp at h1;omega
   subst hW;exact al rfl rfl
theorem Ir(z:aO):cN z=(kq (wfR z z.af 4).1).n:=by
 unfold cN wfR;cases mn z z.af 4 with
 |none=>rfl
 |some x=>cases h:x.set.data <;> simp[kq,h]
def im(zs:List ao):Prop:= ∀p∈zs,bf p.ah=true
theorem vk(a:Bs):∀(l:List ao) (i:Nat) (b:Option (Nat×ao)) (j:Nat) (q:ao),lz a b i l=some (j,q)->(∀p∈l,p.ah.af=a->cN p.ah<=cN q.ah)/\ ∀x,b=some x->cN x.2.ah<=cN q.ah
 |[],i,b,j,q,h=>by
  have h:b=some (j,q):=h;refine⟨λp hp=>absurd hp (List.not_mem_nil),λx hx=>?_⟩;rw[h]at hx;cases hx;exact Int.le_refl _
 |p::t,i,b,j,q,h=>by
  obtain⟨h1,h2⟩:=vk a t (i+1) (mi a b i p) j q h;have hs:(p.ah.af=a->cN p.ah<=cN q.ah)/\ ∀x,b=some x->cN x.2.ah<=cN q.ah:=by
   unfold mi at h2;by_cases hp:p.ah.af=a
   .rw[if_neg (by simp[hp])]at h2;cases b with
    |none=>exact⟨λ_=>h2 _ rfl,λx hx=>by cases hx⟩
    |some x =>
     obtain⟨k,r⟩:=x;dsimp only at h2;by_cases hc:vr r p<0
     .rw[if_pos hc]at h2;have h3:=h2 _ rfl;refine⟨λ_=>h3,λx hx=>?_⟩;cases hx;unfold vr dA at hc;dsimp only at h3 ⊢;split at hc <;> (try split at hc) <;> (try split at hc) <;> (try split at hc) <;> (try split at hc) <;> omega
     .rw[if_neg hc]at h2;have h3:=h2 _ rfl;refine⟨λ_=>?_,λx hx=>by cases hx;exact h3⟩;unfold vr dA at hc;dsimp only at h3 ⊢;split at hc <;> (try split at hc) <;> (try split at hc) <;> (try split at hc) <;> (try split at hc) <;> omega
   .rw[if_pos (by simp[hp])]at h2;exact⟨λe=>absurd e hp,h2⟩
  exact⟨λr hr=>by
   rcases List.mem_cons.1 hr with rfl|hr
   .exact hs.1
   .exact h1 r hr,hs.2⟩
def sf(zs:List ao)(a:Bs)(n:Int):Prop:=(∃p∈zs,p.ah.af=a/\cN p.ah=n)/\ ∀p∈zs,p.ah.af=a->cN p.ah<=n
theorem sf.copy{zs:List ao}{a:Bs}{n:Int}(hv:im zs)(h:sf zs a n):∃k q,gh zs a=some (k,q)/\cN q.ah=n:=by
 obtain⟨⟨p,hp,ha,hn⟩,hm⟩:=h;cases hc:gh zs a with
 |none=>exact absurd ha (zX hc p hp)
 |some x =>
  obtain⟨k,q⟩:=x;obtain⟨h1,h2⟩:=ej hc;rw[<- tT hv]at hc;have h3:=(vk a zs 0 none k q hc).1 p hp ha;have h4:=hm q (aD h1) h2;exact⟨k,q,rfl,by omega⟩
theorem JP{zs:List ao}{a:Bs}{k:Nat}{q:ao}(hv:im zs)(h:gh zs a=some (k,q)):sf zs a (cN q.ah):=by
 obtain⟨h1,h2⟩:=ej h;rw[<- tT hv]at h;exact⟨⟨q,aD h1,h2,rfl⟩,(vk a zs 0 none k q h).1⟩
theorem gB{zs:List ao}{p q:ao}:q∈cn zs p ↔ (q∈zs/\(q.host≠p.host\/q.ah.af≠p.ah.af))\/(p.ah.ak≠[]/\q=p):=by
 unfold cn;rw[List.mem_append,List.mem_filter];refine or_congr (and_congr_right λ_=>by simp) ?_;split
 .simp[*]
 .simp[*]
theorem sf.fold{a:Bs}{n:Int}:∀(l:List ao) {zs:List ao},(∀p∈l,p.ah.af=a->p.ah.ak≠[]/\cN p.ah=n)->sf zs a n->sf (l.foldl cn zs) a n
 |[],zs,_,h=>h
 |p::t,zs,hl,h=>by
  refine sf.fold t (λq hq=>hl q (bC _ hq)) ?_;have hp:=hl p (List.mem_cons_self ..);obtain⟨⟨q,hq,ha,hn⟩,hm⟩:=h;refine⟨?_,λr hr e=>?_⟩
  .by_cases e:p.ah.af=a
   .exact⟨p,gB.2 (.inr ⟨(hp e).1,rfl⟩),e,(hp e).2⟩
   .exact⟨q,gB.2 (.inl ⟨hq,.inr (by rw[ha];exact λh=>e h.symm)⟩),ha,hn⟩
  .rcases gB.1 hr with ⟨h1,_⟩|⟨_,rfl⟩
   .exact hm r h1 e
   .rw[(hp e).2];exact Int.le_refl _
theorem wN:∀(l:List ao) {zs:List ao},(∀p∈l,p.ah.ak=[]\/bf p.ah=true)->im zs->im (l.foldl cn zs)
 |[],zs,_,h=>h
 |p::t,zs,hl,h=>by
  refine wN t (λq hq=>hl q (bC _ hq)) λq hq=>?_
  rcases gB.1 hq with ⟨h1,_⟩|⟨h1,rfl⟩
  .exact h q h1
  .exact(hl q (List.mem_cons_self ..)).resolve_left h1
def jM(zs:List ao)(a:Bs)(z:aO):Prop:=(∃p∈zs,p.ah.af=a)/\ ∀p∈zs,p.ah.af=a->p.ah=z
theorem jM.top{zs:List ao}{a:Bs}{z:aO}(h:jM zs a z):sf zs a (cN z):=by
 obtain⟨⟨p,hp,ha⟩,hm⟩:=h;exact⟨⟨p,hp,ha,by rw[hm p hp ha]⟩,λq hq e=>by rw[hm q hq e];exact Int.le_refl _⟩
theorem jM.fold{a:Bs}{z:aO}:∀(l:List ao) {zs:List ao},(∀p∈l,p.ah.af≠a)->jM zs a z->jM (l.foldl cn zs) a z
 |[],zs,_,h=>h
 |p::t,zs,hl,h=>by
  refine jM.fold t (λq hq=>hl q (bC _ hq)) ?_;have hp:=hl p (List.mem_cons_self ..);obtain⟨⟨q,hq,ha⟩,hm⟩:=h;refine⟨⟨q,gB.2 (.inl ⟨hq,.inr (by rw[ha];exact λh=>hp h.symm)⟩),ha⟩,λr hr e=>?_⟩;rcases gB.1 hr with ⟨h1,_⟩|⟨_,rfl⟩
  .exact hm r h1 e
  .exact absurd e hp
theorem uM{z:aO}:∀(l:List ao) {zs:List ao},(∀p∈l,p.ah=z)-> ∀q∈l.foldl cn zs,q.ah=z\/(q∈zs/\ ∀p∈l,p.host≠q.host\/q.ah.af≠z.af)
 |[],zs,_,q,hq=> .inr ⟨hq,λp hp=>by cases hp⟩
 |p::t,zs,hl,q,hq=>by
  have hp:=hl p (List.mem_cons_self ..);rcases uM t (λq hq=>hl q (bC _ hq)) q hq with h|⟨h,h2⟩
  .exact .inl h
  .rcases gB.1 h with ⟨h1,h3⟩|⟨_,rfl⟩
   .refine .inr ⟨h1,λr hr=>?_⟩;rcases List.mem_cons.1 hr with rfl|hr
    .rw[hp]at h3;exact h3.imp Ne.symm id
    .exact h2 r hr
   .exact .inl hp
theorem rW{a:Bs}:∀(l:List ao) {zs:List ao},(∀p∈l,p.ah.ak≠[])->(∃p∈zs,p.ah.af=a)-> ∃p∈l.foldl cn zs,p.ah.af=a
 |[],zs,_,h=>h
 |p::t,zs,hl,⟨q,hq,ha⟩=>by
  refine rW t (λq hq=>hl q (bC _ hq)) ?_;by_cases e:p.ah.af=a
  .exact⟨p,gB.2 (.inr ⟨hl p (List.mem_cons_self ..),rfl⟩),e⟩
  .exact⟨q,gB.2 (.inl ⟨hq,.inr (by rw[ha];exact λh=>e h.symm)⟩),ha⟩
theorem Iy{z:aO}{zs:List ao}{g:List Int}(hz:z.ak≠[])(h:∃p∈zs,p.ah.af=z.af):jM ((bT z zs++dL z g).foldl cn zs) z.af z:=by
 have hp:∀p∈bT z zs++dL z g,p.ah=z:=λp hp=>by
  rcases List.mem_append.1 hp with hp|hp
  .unfold bT at hp;obtain⟨q,_,rfl⟩:=List.mem_map.1 hp;rfl
  .unfold dL at hp;obtain⟨q,_,rfl⟩:=List.mem_map.1 hp;rfl
 refine⟨rW _ (λp h=>by rw[hp p h];exact hz) h,λq hq ha=>?_⟩;rcases uM _ hp q hq with h|⟨h1,h2⟩
 .exact h
 .have:(⟨q.host,z⟩:ao)∈bT z zs:=by
   unfold bT;exact List.mem_map.2 ⟨q,List.mem_filter.2 ⟨h1,by simp[ha]⟩,rfl⟩
  rcases h2 _ (List.mem_append_left _ this)with h|h
  .exact absurd rfl h
  .exact absurd ha h
theorem zn{z:aO}{zs:List ao}{g:List Int}:∀p∈bT z zs++dL z g,p.ah=z:=λp hp=>by
 rcases List.mem_append.1 hp with hp|hp
 .unfold bT at hp;obtain⟨q,_,rfl⟩:=List.mem_map.1 hp;rfl
 .unfold dL at hp;obtain⟨q,_,rfl⟩:=List.mem_map.1 hp;rfl
def Eh(x:bA)(since aN:Int)(zs:List ao)(p:ao):Prop:=p.ah.ak=[]\/(∃k q,gh zs p.ah.af=some (k,q)/\(p.ah=q.ah\/zD since aN (cN q.ah) p.ah))\/(gh zs p.ah.af=none/\x.kind=4/\p.ah.af=x.name/\zD since aN 0 p.ah)
theorem Eh.val{x:bA}{since aN:Int}{zs:List ao}{p:ao}(hv:im zs)(h:Eh x since aN zs p):p.ah.ak=[]\/bf p.ah=true:=by
 rcases h with h|⟨k,q,hc,h|h⟩|⟨_,_,_,h⟩
 .exact .inl h
 .rw[h];exact .inr (hv q (aD (ej hc).1))
 .exact .inr h.valid
 .exact .inr h.valid
def zw(w:aZ)(l:List (List ao)):List ao:=l.foldl (λzs s=>s.foldl cn zs) w.ai
theorem Mf(w:aZ):∀(l:List (List ao)),(l.foldl jk w).ai=zw w l
 |[]=>rfl
 |s::t=>by
  have:∀(l:List (List ao)) (w:aZ),(l.foldl jk w).ai=l.foldl (λzs s=>s.foldl cn zs) w.ai:=λl=>by
   induction l with
   |nil=>intro w;rfl
   |cons s t ih=>intro w;exact ih (jk w s)
  exact this _ w
structure oL(w:aZ)(x:bA)(since aN:Int)(l:List (List ao))(zs:List ao):Prop where
 at_:zw w l=zs
 val:im zs
 aF:∀k s,l[k]? =some s->im (zw w (l.take k))/\ ∀p∈s,Eh x since aN (zw w (l.take k)) p
theorem oL.nil{w:aZ}{x:bA}{since aN:Int}(h:im w.ai):oL w x since aN [] w.ai:=⟨rfl,h,λk s h=>by simp at h⟩
theorem oL.start{w:aZ}{x:bA}{since aN:Int}{l:List (List ao)}(h:im w.ai)(hl:l=[]):oL w x since aN l w.ai:=by rw[hl];exact oL.nil h
theorem oL.add{w:aZ}{x:bA}{since aN:Int}{l:List (List ao)}{zs:List ao}(h:oL w x since aN l zs){s:List ao}(hs:∀p∈s,Eh x since aN zs p):oL w x since aN (l++(if s=[]then[]else[s])) (s.foldl cn zs):=by
 by_cases e:s=[]
 .subst e;simpa using h
 .rw[if_neg e];refine⟨?_,wN s (λp hp=>(hs p hp).val h.val) h.val,λk t ht=>?_⟩
  .unfold zw;rw[List.foldl_append];show s.foldl cn (zw w l)=_
   rw[h.at_]
  .by_cases hk:k<l.length
   .rw[cU hk]at ht;rw[List.take_append_of_le_length (by omega)];exact h.aF k t ht
   .have km:k=l.length:=by
     have:=(aB.1 ht).1;simp at this;omega
    subst km;rw[List.take_left,h.at_];have:t=s:=by simpa using ht.symm
    subst this;exact⟨h.val,hs⟩
theorem yD(af:Bs):∀(l:List ao) (x:Bs×Bool),(x.2=true->x.1≠af)->((l.foldl (ji af) x).2=true->(l.foldl (ji af) x).1≠af)
 |[],x,h=>h
 |p::t,x,h=>by
  refine yD af t _ ?_;unfold ji;split
  .rename_i g;intro _ e;simp only[aU,bne_iff_ne,ne_eq]at g;exact g.1.1 e
  .exact h
theorem pa{zs:List ao}(hv:im zs){a:Bs}(h:(bS zs a).2=true):∃k q,gh zs a=some (k,q)/\(bS zs a).1=q.ah:=by
 cases hc:gh zs a with
 |none =>
  unfold bS at h;rw[tT hv,hc]at h;cases h
 |some x =>
  obtain⟨k,q⟩:=x;exact⟨k,q,rfl,by rw[Jb hv hc]⟩
theorem Hg{zs:List ao}(hv:im zs){af:Bs}(h:(cH zs af).2=true):∃a k q,a≠af/\gh zs a=some (k,q)/\(cH zs af).1=q.ah:=by
 unfold cH at h ⊢;split at h
 case isFalse=>cases h
 rename_i h1;rw[if_pos h1];split at h
 case isFalse=>cases h
 rename_i h2;rw[if_pos h2];refine⟨(dO af zs).1,?_⟩;have hA:(dO af zs).1≠af:=yD af zs _ (by simp) h1;have hc:(bS zs (dO af zs).1).2=true:=by
  rcases eW zs (dO af zs).1 with ⟨p,hp,e,ea⟩|⟨e,_⟩
  .rw[e]
  .rw[e]at h2;cases h2
 obtain⟨k,q,g1,g2⟩:=pa hv hc;exact⟨k,q,hA,g1,g2⟩
theorem kJ{z:aO}(h:bf z=true):z.ak≠[]:=λe=>by
 have:=(xI.1 h).start;rw[e]at this;cases this
theorem wy{x:bA}{since aN:Int}{zs:List ao}{y z:aO}{n:Int}(hv:im zs)(ht:sf zs y.af n)(hy:(kq (wfR y y.af 4).1).n=n)(h:db since aN y=some z){p:ao}(hp:p.ah=z):Eh x since aN zs p:=by
 obtain⟨k,q,h1,h2⟩:=ht.copy hv;refine .inr (.inl ⟨k,q,by rw[hp,eA h];exact h1,.inr ?_⟩);rw[hp,h2, <- hy];exact wC h
theorem KQ{o o2:bz}{x:bA}(h:mQ o x=some o2)(hv:im o.w.ai)(hc:(bS o.w.ai x.ah).2=true)(hz:o.ah=(bS o.w.ai x.ah).1)(hs:o.bp=[])(kC:o.aF=[]):∃zs,oL o.w x o.since o.aN o2.bp zs:=by
 unfold mQ at h;split at h
 case isFalse=>cases h
 rename_i hB;obtain⟨a,k1,q1,hA,hR,e1⟩:=Hg hv hB;obtain⟨k0,q0,hJ,e0⟩:=pa hv hc;rw[e1]at h;have ez:o.ah=q0.ah:=hz.trans e0;have a0:=(ej hJ).2;have a1:=(ej hR).2;have m0:=aD (ej hJ).1;unfold wg at h;split at h
 case isFalse=>cases h
 split at h
 .cases h
 rename_i z hV;unfold nO at h;split at h
 case isFalse=>cases h
 split at h
 .cases h
 rename_i z2 kc;unfold tc at h;split at h
 .cases h
 rename_i z3 ku;cases h;have bs:∀(z:aO) (s:Bs) (k aP:Int) (d:List Datum),k≠4->(kq (wfR (bL z s k aP d) (bL z s k aP d).af 4).1).n=cN z:=λz s k aP d hk=>by
  rw[eQ,EE _ _ _ _ _ (Ne.symm hk),Ir]
 have az:z.af=x.ah:=by rw[eA hV,eQ,ez];exact a0
 have kd:z2.af=a:=by rw[eA kc,eQ];exact a1
 have t0:=JP hv hJ;have t1:=JP hv hR;generalize kM:bT z o.w.ai++dL z (bW o.got z.af)=P1 at *
 have xt:∀p∈P1,p.ah=z:=by rw[<- kM];exact zn
 have S1:=(oL.start (x:=x) (since:=o.since) (aN:=o.aN) hv hs).add (s:=P1) λp hp =>
  wy hv (by rw[eQ,ez,a0];exact t0) ((bs _ _ _ _ _ (by decide)).trans (by rw[ez])) hV (xt p hp)
 have d1:jM (P1.foldl cn o.w.ai) x.ah z:=by
  rw[<- az, <- kM];exact Iy (kJ (wC hV).valid) ⟨q0,m0,by rw[a0,az]⟩
 have yr :sf (P1.foldl cn o.w.ai) a (cN q1.ah):=t1.fold _ λp hp e=>by rw[xt p hp,az]at e;exact absurd e.symm hA
 generalize xw:bT z2 o.w.ai++dL z2 (bW o.got z2.af)=P2 at *
 have xu:∀p∈P2,p.ah=z2:=by rw[<- xw];exact zn
 have S2:=S1.add (s:=P2) λp hp=>wy S1.val (by rw[eQ,a1];exact yr) (bs _ _ _ _ _ (by decide)) kc (xu p hp)
 have d2:jM (P2.foldl cn (P1.foldl cn o.w.ai)) x.ah z:=d1.fold _ λp hp=>by rw[xu p hp,kd];exact hA
 generalize xx:bT z3 o.w.ai++dL z3 (bW o.got z3.af)=P3 at *
 have ya:∀p∈P3,p.ah=z3:=by rw[<- xx];exact zn
 have S3:=S2.add (s:=P3) λp hp=>wy S2.val (by rw[eQ,az];exact d2.top) (bs _ _ _ _ _ (by decide)) ku (ya p hp)
 have p1:(aS o z).aF=P1:=by show o.aF++_++_=_;rw[kC,List.nil_append,kM]
 have p2:(aS (cy (aS o z)) z2).aF=P2:=by show[]++_++_=_;rw[List.nil_append];exact xw
 have p3:(aS (cy (aS (cy (aS o z)) z2)) z3).aF=P3:=by show[]++_++_=_;rw[List.nil_append];exact xx
 have e:(cy (aS (cy (aS (cy (aS o z)) z2)) z3)).bp=((o.bp++(if P1=[]then[]else[P1]))++(if P2=[]then[]else[P2]))++(if P3=[]then[]else[P3]):=by
  show((o.bp++(if (aS o z).aF=[]then[]else[(aS o z).aF]))++(if (aS (cy (aS o z)) z2).aF=[]then[]else[(aS (cy (aS o z)) z2).aF]))++(if (aS (cy (aS (cy (aS o z)) z2)) z3).aF=[]then[]else[(aS (cy (aS (cy (aS o z)) z2)) z3).aF])=_
  rw[p1,p2,p3]
 rw[e];exact⟨_,S3⟩
theorem AU{since aN:Int}{y z:aO}(h:db since aN y=some z)(s:Bs){k:Int}(h8:k≠8):wfR z s k=wfR (eS y) s k:=by
 obtain⟨h1,h2,h3,h4,h5,h6,h7,yt,e⟩:=oR h;have hz:wfR z s k=wfR (eV (eS y)).1 s k:=by
  conv=>lhs;rw[e]
  unfold iK at h7 ⊢;split at h7
  .cases h7
  rename_i g1;rw[if_neg g1];split at h7
  .cases h7
  rename_i g2;rw[if_neg g2];split at h7
  .cases h7
  rename_i g3;rw[if_neg g3];exact Gs _ _ _ _ _ _
 rw[hz,Cw h6 _ h8]
theorem Iq{since aN:Int}{y z:aO}(h:db since aN y=some z)(s:Bs){k:Int}(h8:k≠8)(h4:k≠4):wfR z s k=wfR y s k:=by
 rw[AU h s h8];exact EE _ _ _ _ _ h4
theorem uE{since aN:Int}{v z:aO}{s:Bs}{k aP:Int}{d:List Datum}(h:db since aN (bL v s k aP d)=some z)(h8:k≠8)(h4:k≠4):wfR z s k=((eM v s k aP d).set,true):=by
 rw[AU h s h8];have xf:=(oR h).2.2.2.2.1;exact JS (yK (bQ xf).rising.pw) (Pj _ _ _ (IU ..) h4) (IT ..)
theorem Gr(xk:Bs->Bool)(af:Bs)(K:List cR)(a b:Int):∀(c:Bs) (l:List Signed) (s:Signed),s∈gE af K a b (lB xk c l) l->s.set.type≠1->s.set.type≠2->s.sigs=K.map λk=>lr s.set af k a b
 |_,[],s,h,_,_=>by cases h
 |c,x::t,s,h,h1,h2=>by
  rw[lB,gE]at h;rcases List.mem_cons.1 h with rfl|h
  .have:sA (gy xk c x) x=true:=by
    unfold sA;have e1:x.set.type≠1:=h1;have e2:x.set.type≠2:=h2;simp[e1,e2]
   rw[this];unfold xE;rw[if_pos rfl]
  .exact Gr xk af K a b _ t s h h1 h2
theorem vB{c:Datum}:∀l:List Datum,c∈l->c∈dD l
 |[a],h=>h
 |a::b::t,h=>by
  unfold dD;have ih:=vB (c:=c) (b::t);split
  .rename_i e;rcases List.mem_cons.1 h with h|h
   .exact ih (by rw[h,e];exact List.mem_cons_self ..)
   .exact ih h
  .rcases List.mem_cons.1 h with h|h
   .rw[h];exact List.mem_cons_self ..
   .exact bC _ (ih h)
theorem EG{z:aO}{x:bA}{c:Datum}(h:c=⟨[],x.key.n,x.key.alg⟩\/c∈(wfR z x.ah 7).1.data):c∈DM z x:=by
 unfold DM;refine vB _ ((nW (zR _)).mem_iff.2 ?_);rcases h with h|h
 .rw[h];exact List.mem_cons_self ..
 .exact bC _ h
theorem wS{z:aO}{s:Bs}{k:Int}{a:cG}(h:wfR z s k=(a,true)):∃(i:Nat) (x:Signed),atI z.ak ⟨s,k⟩=i/\z.ak[i]? =some x/\x.set=a/\x.set.name=s/\x.set.type=k:=by
 unfold wfR at h;rw[yQ]at h;unfold atI;cases hi:z.ak.findIdx? (is ⟨s,k⟩)with
 |none=>rw[hi]at h;exact absurd (congrArg Prod.snd h) (by simp)
 |some i =>
  rw[hi]at h;obtain⟨g1,g2,_⟩:=List.findIdx?_eq_some_iff_getElem.1 hi;refine⟨i,z.ak[i],rfl,au g1,?_,?_⟩
  .dsimp only at h;rw[au g1]at h;exact congrArg Prod.fst h
  .have:=(wa _ _).1 g2;exact⟨congrArg Prod.fst this,congrArg Prod.snd this⟩
theorem uo{since aN n at_ d:Int}{z:aO}{s:Signed}{a:cG}{c:Datum}(h:zD since aN n z)(hs:s∈z.ak)(hn:s.set.name=z.af)(h7:s.set.type=7)(hw:(wfR z z.af 7).1=s.set)
 (ha:ee a=true) (h6:a.type=6) (yb:a.name=z.af) (hc:c∈a.data) (hd:c∈s.set.data) (ht:gM at_ d=true) (h1:since<=at_-d) (h2:at_+d<=aN):mL a s at_ d=true:=by
 have ho:=bQ h.valid;have hF:=h.again;rw[hw]at hF;have hk:=h.keys;rw[hw]at hk;have xe:=ho.set s hs;have ek:(dv s.set).1=cK s.set:=by
  unfold dv;rw[if_pos xe,if_pos h7]
 rw[ek]at hF;unfold iK at hF;split at hF
 .exact absurd (congrArg Prod.snd hF) (show ¬(1:Int)=0 by decide)
 rename_i g1;split at hF
 .exact absurd (congrArg Prod.snd hF) (show ¬(1:Int)=0 by decide)
 rename_i g2;split at hF
 .exact absurd (congrArg Prod.snd hF) (show ¬(5:Int)=0 by decide)
 have hz:jJ z (kG (cK s.set)) since aN=z:=congrArg Prod.fst hF;have xh:qj since aN=true:=by
  unfold oX at g1;simp only[Bool.not_eq_false',Bool.not_eq_true',Bool.or_eq_false_iff,Bool.not_eq_false',Bool.not_eq_true,Bool.not_eq_false]at g1;simp at g1;exact g1.1.2
 have xd:s.sigs=(kG (cK s.set)).map λk=>lr s.set z.af k since aN:=by
  have hm:s∈(jJ z (kG (cK s.set)) since aN).ak:=by rw[hz];exact hs
  exact Gr _ _ _ _ _ _ _ s hm (by rw[h7];decide) (by rw[h7];decide)
 have kT:(⟨c.n,c.m⟩:cR)∈cK s.set:=List.mem_map.2 ⟨c,hd,rfl⟩;have yi:(⟨c.n,c.m⟩:cR)∈cK a:=List.mem_map.2 ⟨c,hc,rfl⟩;have yk:nN ⟨c.n,c.m⟩=true:=by
  simp only[Bool.not_eq_false]at g2;exact aI.1 g2 _ kT
 have kQ:(⟨c.n,c.m⟩:cR)∈qk a s.set:=by
  unfold qk;refine List.mem_filter.2 ⟨kT,?_⟩;rw[List.find?_isSome];exact⟨_,yi,by unfold eqK;simp⟩
 unfold gM at ht;simp only[aU,decide_eq_true_eq]at ht;have yf:lr s.set z.af ⟨c.n,c.m⟩ since aN∈s.sigs:=by
  rw[xd];exact List.mem_map.2 ⟨_,(uL _).mem_iff.2 kT,rfl⟩
 have kP:qz s.set (lr s.set z.af ⟨c.n,c.m⟩ since aN) ⟨c.n,c.m⟩=true:=by
  unfold qz;have:lC s.set (lr s.set z.af ⟨c.n,c.m⟩ since aN).ah ⟨c.n,c.m⟩ (lr s.set z.af ⟨c.n,c.m⟩ since aN).since (lr s.set z.af ⟨c.n,c.m⟩ since aN).aN=(lr s.set z.af ⟨c.n,c.m⟩ since aN,0):=by
   show lC s.set z.af ⟨c.n,c.m⟩ since aN=_
   rw[lC,if_pos];rw[wG,yk,xh,ho.af,ho.Ro,xe,ho.under s hs];rfl
  rw[this];simp
 unfold mL xF;rw[ha,xe,h6,h7,hn,yb];have hT:gM at_ d=true:=by
  unfold gM;simp only[aU,decide_eq_true_eq];exact ht
 rw[hT];have:(s.sigs.find? (zl s.set z.af (qk a s.set) at_ d)).isSome=true:=by
  rw[List.find?_isSome];refine⟨_,yf,?_⟩;unfold zl;rw[aU];refine⟨?_,?_⟩
  .unfold DY;rw[wrap_i64 (by omega) (by omega),wrap_i64 (by omega) (by omega)];have e1:decide ((lr s.set z.af ⟨c.n,c.m⟩ since aN).since>at_-d)=false:=decide_eq_false (by show ¬since>at_-d;omega);have e2:decide ((lr s.set z.af ⟨c.n,c.m⟩ since aN).aN<at_+d)=false:=decide_eq_false (by show ¬aN<at_+d;omega);rw[e1,e2];simp[lr]
  .rw[List.find?_isSome];exact⟨_,kQ,kP⟩
 rw[this];simp
theorem yR{q:ao}:∀(l:List ao) {zs:List ao},q∈l.foldl cn zs->q∈zs\/q∈l
 |[],zs,h=> .inl h
 |p::t,zs,h=>by
  rcases yR t h with h|h
  .rcases gB.1 h with ⟨h,_⟩|⟨_,rfl⟩
   .exact .inl h
   .exact .inr (List.mem_cons_self ..)
  .exact .inr (bC _ h)
def zA(w zs:List ao)(a:Bs):Prop:= ∀q∈zs,q.ah.af=a-> ∃r∈w,r.ah.af=a/\r.host=q.host
theorem pD{w zs:List ao}{a:Bs}{z:aO}(h:zA w zs a):zA w ((bT z w).foldl cn zs) a:=λq hq e=>by
 rcases yR _ hq with hq|hq
 .exact h q hq e
 .unfold bT at hq;obtain⟨r,hr,rfl⟩:=List.mem_map.1 hq;have hr:=List.mem_filter.1 hr;exact⟨r,hr.1,(eq_of_beq hr.2).trans e,rfl⟩
theorem sE{w zs:List ao}{z:aO}(hz:z.ak≠[])(h:zA w zs z.af)(hs:∃p∈zs,p.ah.af=z.af):jM ((bT z w).foldl cn zs) z.af z:=by
 have hp:∀p∈bT z w,p.ah=z:=λp hp=>by
  unfold bT at hp;obtain⟨q,_,rfl⟩:=List.mem_map.1 hp;rfl
 refine⟨rW _ (λp h=>by rw[hp p h];exact hz) hs,λq hq ha=>?_⟩;rcases uM _ hp q hq with h' |⟨h1,h2⟩
 .exact h'
 .obtain⟨r,hr,er,eh⟩:=h q h1 ha;have:(⟨r.host,z⟩:ao)∈bT z w:=by
   unfold bT;exact List.mem_map.2 ⟨r,List.mem_filter.2 ⟨hr,by simp[er]⟩,rfl⟩
  rcases h2 _ this with h|h
  .exact absurd eh h
  .exact absurd ha h
def DJ(zs ys:List ao):Prop:= ∀a,(∃p∈zs,p.ah.af=a) ↔ ∃p∈ys,p.ah.af=a
theorem qU{w zs:List ao}{z:aO}(hz:z.ak≠[])(h:DJ w zs):DJ w ((bT z w).foldl cn zs):=λa=>by
 have hp:∀p∈bT z w,p.ah=z/\ ∃q∈w,q.ah.af=z.af:=λp hp=>by
  unfold bT at hp;obtain⟨q,hq,rfl⟩:=List.mem_map.1 hp;have hq:=List.mem_filter.1 hq;exact⟨rfl,q,hq.1,eq_of_beq hq.2⟩
 constructor
 .intro hw;exact rW _ (λp h=>by rw[(hp p h).1];exact hz) ((h a).1 hw)
 .rintro⟨p,kr,e⟩;rcases yR _ kr with kr|kr
  .exact(h a).2 ⟨p,kr,e⟩
  .obtain⟨e1,e2⟩:=hp p kr;rw[e1]at e;rw[<- e];exact e2
theorem tI{zs ys:List ao}{af a:Bs}{ab:aO}(hD:bq af=true)(xj:im zs)(yq:im ys)(hs:DJ zs ys)(ht:(dO af zs).2=true)(ha:(dO af zs).1=a)(hB:jM ys a ab)(h2:(wfR ab af 2).2=true):cH ys af=(ab,true):=by
 have yp:∀{l:List ao},im l-> ∀p∈l,bq p.ah.af=true:=λhl p hp=>(bQ (hl p hp)).af
 have top:=λ{l:List ao} (hl:im l)=>tG hD l (yp hl) [] ([],false) (λp hp=>by cases hp) (λh=>by cases h) (λ_ p hp=>by cases hp)
 obtain⟨t1,_⟩:=top xj;obtain⟨t2,t3⟩:=top yq;rw[List.nil_append]at t1 t2 t3;have T1:tF af a zs:=by rw[<- ha];exact t1 ht
 have hex:∀b,(∃p∈zs,p.ah.af=b)-> ∃p∈ys,p.ah.af=b:=λb=>(hs b).1
 have f2:(dO af ys).2=true:=by
  cases hc:(dO af ys).2 with
  |true=>rfl
  |false =>
   obtain⟨p,hp,e⟩:=hex a T1.1;have:=t3 hc p hp (by rw[e];exact T1.2.1);rw[e,T1.2.2.1]at this;cases this
 have T2:=t2 f2;have e:(dO af ys).1=a:=by
  have g1:bE a (dO af ys).1=true:=by
   obtain⟨p,hp,e⟩:=(hs _).2 T2.1;have:=T1.2.2.2 p hp (by rw[e];exact T2.2.1) (by rw[e];exact T2.2.2.1);rw[e]at this;exact this
  have g2:bE (dO af ys).1 a=true:=by
   obtain⟨p,hp,e⟩:=hex a T1.1;have:=T2.2.2.2 p hp (by rw[e];exact T1.2.1) (by rw[e];exact T1.2.2.1);rw[e]at this;exact this
  exact uR g2 g1
 have ke:bS ys a=(ab,true):=by
  rcases eW ys a with ⟨p,hp,e,ea⟩|⟨_,kB⟩
  .rw[e,hB.2 p hp ea]
  .obtain⟨p,hp,e⟩:=hB.1;exact absurd e (kB p hp)
 unfold cH;rw[if_pos f2,e,ke,if_pos h2]
structure TrW(x:bA)(y:List ao)(a:cG)(s:Signed):Prop where
 val:im y
 z:∃kz pz,gh y x.ah=some (kz,pz)/\ ∃kk:Nat,atI pz.ah.ak ⟨x.ah,7⟩=kk/\pz.ah.ak[kk]? =some s
 p:∃(kp:Nat) (pp:ao),oW y x.ah=kp/\y[kp]? =some pp/\wfR pp.ah x.ah 6=(a,true)
theorem Bm{x:bA}{y:List ao}{zz ab:aO}{ar sr:cG}(hv:im y)(hD:bq x.ah=true)(hz:jM y x.ah zz)(hB:cH y x.ah=(ab,true))(hs:wfR zz x.ah 7=(sr,true))(ha:wfR ab x.ah 6=(ar,true))(yo:bf ab=true) :
 ∃s,s.set=sr/\s∈zz.ak/\s.set.name=x.ah/\s.set.type=7/\TrW x y ar s/\ee ar=true/\ar.name=x.ah/\ar.type=6:=by
 obtain⟨k,p,e1,e2,e3⟩:=Mj hv hD (by rw[hB]);rw[hB]at e3;obtain⟨i,s,f1,f2,f3,f4,f5⟩:=wS hs;obtain⟨j,t,t1,t2,t3,t4,t5⟩:=wS ha;obtain⟨⟨r,hr,er⟩,hI⟩:=hz;have ke:(bS y x.ah).2=true:=by
  rcases eW y x.ah with ⟨p,_,e,_⟩|⟨_,e⟩
  .rw[e]
  .exact absurd er (e r hr)
 obtain⟨kz,pz,g1,g2⟩:=pa hv ke;obtain⟨g3,g4⟩:=ej g1;have g5:pz.ah=zz:=hI pz (aD g3) g4;refine⟨s,f3,aD f2,f4,f5,⟨hv,⟨kz,pz,g1,i,by rw[g5];exact f1,by rw[g5];exact f2⟩,⟨k,p,e1,e2,by rw[<- e3];exact ha⟩⟩,?_,by rw[<- t3];exact t4,by rw[<- t3];exact t5⟩;rw[<- t3];exact(bQ yo).set t (aD t2)
theorem HA{o o2:bz}{x:bA}{at_ d:Int}(h:mQ o x=some o2)(hv:im o.w.ai)(hK:∀p∈o.w.ai,∀q∈o.w.ai,p.ah.af=q.ah.af->p.ah=q.ah)(hc:(bS o.w.ai x.ah).2=true)(hz:o.ah=(bS o.w.ai x.ah).1)(hs:o.bp=[])(kC:o.aF=[])(hg:o.got=[])
 (ht:gM at_ d=true) (ki:o.since<=at_-d) (kj:at_+d<=o.aN) :
 ∃P1 P2 P3,o2.bp=[P1,P2,P3]/\ ∃a0 s0,TrW x o.w.ai a0 s0/\(∃a s,TrW x (P1.foldl cn o.w.ai) a s/\((∃c∈a0.data,c∈s0.set.data)->mL a s at_ d=true)) /\
  (∃a s,TrW x (P2.foldl cn (P1.foldl cn o.w.ai)) a s/\mL a s at_ d=true)/\(∃a s,TrW x (P3.foldl cn (P2.foldl cn (P1.foldl cn o.w.ai))) a s/\mL a s at_ d=true):=by
 obtain⟨yx,xy⟩:=KQ h hv hc hz hs kC;unfold mQ at h;split at h
 case isFalse=>cases h
 rename_i hB;have hN:(dO x.ah o.w.ai).2=true/\(wfR (cH o.w.ai x.ah).1 x.ah 2).2=true/\(cH o.w.ai x.ah).1=(bS o.w.ai (dO x.ah o.w.ai).1).1:=by
  unfold cH at hB ⊢;split at hB
  case isFalse=>cases hB
  rename_i g1;rw[if_pos g1];split at hB
  case isFalse=>cases hB
  rename_i g2;rw[if_pos g2];exact⟨g1,g2,rfl⟩
 obtain⟨ky,kn,kA⟩:=hN;have hA:(dO x.ah o.w.ai).1≠x.ah:=yD x.ah o.w.ai _ (by simp) ky;have yc:(bS o.w.ai (dO x.ah o.w.ai).1).2=true:=by
  rcases eW o.w.ai (dO x.ah o.w.ai).1 with ⟨p,hp,e,ea⟩|⟨e,_⟩
  .rw[e]
  .rw[kA,e]at kn;cases kn
 obtain⟨k1,q1,hR,e1⟩:=pa hv yc;obtain⟨k0,q0,hJ,e0⟩:=pa hv hc;rw[e1]at kA;have kO:cH o.w.ai x.ah=(q1.ah,true):=by rw[<- kA, <- hB]
 rw[kA]at h kn;generalize kN:(dO x.ah o.w.ai).1=a at *
 have ez:o.ah=q0.ah:=hz.trans e0;have a0:=(ej hJ).2;have a1:=(ej hR).2;have m0:=aD (ej hJ).1;have m1:=aD (ej hR).1;have hD:bq x.ah=true:=by rw[<- a0];exact(bQ (hv q0 m0)).af
 unfold wg at h;split at h
 case isFalse=>cases h
 rename_i xB;split at h
 .cases h
 rename_i z hV;unfold nO at h;split at h
 case isFalse=>cases h
 rename_i yh;split at h
 .cases h
 rename_i z2 kc;unfold tc at h;split at h
 .cases h
 rename_i z3 ku;cases h;rw[ez]at hV xB;have az:z.af=x.ah:=by rw[eA hV,eQ];exact a0
 have kd:z2.af=a:=by rw[eA kc,eQ];exact a1
 have hX:z3.af=x.ah:=by rw[eA ku,eQ];exact az
 have s1:=wC hV;have s2:=wC kc;have s3:=wC ku;have pE:∀z:aO,bT z o.w.ai++dL z (bW o.got z.af)=bT z o.w.ai:=λz=>by
  rw[hg];show _++[]=_;rw[List.append_nil]
 have hP:∀(z:aO) (p:ao),p∈bT z o.w.ai->p.ah=z:=λz p hp=>by
  unfold bT at hp;obtain⟨q,_,rfl⟩:=List.mem_map.1 hp;rfl
 have ka:∀(z:aO) (q:ao),q∈o.w.ai->q.ah.af=z.af->bT z o.w.ai≠[]:=λz q hq e kY=>by
  have:(⟨q.host,z⟩:ao)∈bT z o.w.ai:=by
   unfold bT;exact List.mem_map.2 ⟨q,List.mem_filter.2 ⟨hq,by simp[e]⟩,rfl⟩
  rw[kY]at this;cases this
 have n1:=ka z q0 m0 (by rw[a0,az]);have n2:=ka z2 q1 m1 (by rw[a1,kd]);have n3:=ka z3 q0 m0 (by rw[a0,hX]);have kD:(cy (aS (cy (aS (cy (aS o z)) z2)) z3)).bp=[bT z o.w.ai,bT z2 o.w.ai,bT z3 o.w.ai]:=by
  have p1:(aS o z).aF=bT z o.w.ai:=by show o.aF++_++_=_;rw[kC,List.nil_append];exact pE z
  have p2:(aS (cy (aS o z)) z2).aF=bT z2 o.w.ai:=by show[]++_++_=_;rw[List.nil_append];exact pE z2
  have p3:(aS (cy (aS (cy (aS o z)) z2)) z3).aF=bT z3 o.w.ai:=by show[]++_++_=_;rw[List.nil_append];exact pE z3
  show((o.bp++(if (aS o z).aF=[]then[]else[(aS o z).aF]))++(if (aS (cy (aS o z)) z2).aF=[]then[]else[(aS (cy (aS o z)) z2).aF]))++(if (aS (cy (aS (cy (aS o z)) z2)) z3).aF=[]then[]else[(aS (cy (aS (cy (aS o z)) z2)) z3).aF])=_
  rw[p1,p2,p3,if_neg n1,if_neg n2,if_neg n3,hs];rfl
 refine⟨_,_,_,kD,?_⟩;have val:∀{l:List ao} {zs:List ao} {z:aO},bf z=true->(∀p∈l,p.ah=z)->im zs->im (l.foldl cn zs):=λhz hl xj=>wN _ (λp hp=> .inr (by rw[hl p hp];exact hz)) xj
 have v1:im ((bT z o.w.ai).foldl cn o.w.ai):=val s1.valid (hP z) hv;have v2:=val s2.valid (hP z2) v1;have v3:=val s3.valid (hP z3) v2;have A0:jM o.w.ai a q1.ah:=⟨⟨q1,m1,a1⟩,λp hp e=>hK p hp q1 m1 (by rw[e,a1])⟩
 have Z0:jM o.w.ai x.ah q0.ah:=⟨⟨q0,m0,a0⟩,λp hp e=>hK p hp q0 m0 (by rw[e,a0])⟩
 have A1:jM ((bT z o.w.ai).foldl cn o.w.ai) a q1.ah:=A0.fold _ λp hp=>by rw[hP z p hp,az];exact λe=>hA e.symm
 have H0:∀b,zA o.w.ai o.w.ai b:=λb q hq e=>⟨q,hq,e,rfl⟩
 have Z1:jM ((bT z o.w.ai).foldl cn o.w.ai) x.ah z:=by
  rw[<- az];exact sE (kJ s1.valid) (H0 _) ⟨q0,m0,by rw[a0,az]⟩
 have A2:jM ((bT z2 o.w.ai).foldl cn ((bT z o.w.ai).foldl cn o.w.ai)) a z2:=by
  rw[<- kd];exact sE (kJ s2.valid) (pD (H0 _)) (by rw[kd];exact A1.1)
 have Z2:jM ((bT z2 o.w.ai).foldl cn ((bT z o.w.ai).foldl cn o.w.ai)) x.ah z:=Z1.fold _ λp hp=>by rw[hP z2 p hp,kd];exact hA
 have A3:jM ((bT z3 o.w.ai).foldl cn ((bT z2 o.w.ai).foldl cn ((bT z o.w.ai).foldl cn o.w.ai))) a z2:=A2.fold _ λp hp=>by rw[hP z3 p hp,hX];exact λe=>hA e.symm
 have Z3:jM ((bT z3 o.w.ai).foldl cn ((bT z2 o.w.ai).foldl cn ((bT z o.w.ai).foldl cn o.w.ai))) x.ah z3:=by
  rw[<- hX];exact sE (kJ s3.valid) (pD (pD (H0 _))) (by rw[hX];exact Z2.1)
 have b0:DJ o.w.ai o.w.ai:=λ_=>Iff.rfl
 have b1:=qU (z:=z) (kJ s1.valid) b0;have b2:=qU (z:=z2) (kJ s2.valid) b1;have b3:=qU (z:=z3) (kJ s3.valid) b2;have w2:(wfR z2 x.ah 2).2=true:=by rw[Iq kc _ (by decide) (by decide),EE _ _ _ _ _ (show(2:Int)≠6 by decide)];exact kn
 have B1:=tI hD hv v1 b1 ky kN A1 kn;have B2:=tI hD hv v2 b2 ky kN A2 w2;have B3:=tI hD hv v3 b3 ky kN A3 w2;have k7:wfR q0.ah x.ah 7=((wfR q0.ah x.ah 7).1,true):=by rw[<- xB]
 have k6:wfR q1.ah x.ah 6=((wfR q1.ah x.ah 6).1,true):=by rw[<- yh]
 have c1:=uE hV (by decide) (by decide);have c2:=uE kc (by decide) (by decide);have c3:=uE ku (by decide) (by decide);obtain⟨t0,f0,_,_,_,T0,_⟩:=Bm hv hD Z0 kO k7 k6 (hv q1 m1);obtain⟨t1,f1,g1,g2,g3,T1,g4,g5,g6⟩:=Bm v1 hD Z1 B1 c1 k6 (hv q1 m1);obtain⟨t2,f2,i1,i2,i3,T2,i4,i5,i6⟩:=Bm v2 hD Z2 B2 c1 c2 s2.valid;obtain⟨t3,f3,j1,j2,j3,T3,j4,j5,j6⟩:=Bm v3 hD Z3 B3 c3 c2 s2.valid;refine⟨_,_,T0,⟨_,_,T1,λ⟨c,h1,h2⟩=>?_⟩,⟨_,_,T2,?_⟩,⟨_,_,T3,?_⟩⟩
 .refine uo s1 g1 (by rw[az];exact g2) g3 (by rw[az,c1,f1]) g4 g6 (by rw[az];exact g5) h1 ?_ ht ki kj;rw[f1];rw[f0]at h2;exact EG (.inr h2)
 .refine uo s1 i1 (by rw[az];exact i2) i3 (by rw[az,c1,f2]) i4 i6 (by rw[az];exact i5) (c:=⟨[],x.key.n,x.key.alg⟩) (List.mem_cons_self ..) ?_ ht ki kj;rw[f2];exact EG (.inl rfl)
 .refine uo s3 j1 (by rw[hX];exact j2) j3 (by rw[hX,c3,f3]) j4 j6 (by rw[hX];exact j5) (c:=⟨[],x.key.n,x.key.alg⟩) (List.mem_cons_self ..) ?_ ht ki kj;rw[f3];exact List.mem_cons_self ..
theorem QE{n:Int}(h:0<=n):decide (n<0)=false:=decide_eq_false (by omega)
def EP(a:cG)(s:Signed):Bool:=a.data.any λc=>s.set.data.any λe=>decide (c=e)
theorem Rp(w:aZ)(x:bA)(since aN at_ d:Int)(r:Option (List (List ao)))(W:List aZ)(cm:Bool)
 (hQ:NQ.Fn cx 7 [] (.d (.bool true)) [])
 (hY:NQ.Fn cx 8 [.agg (bu w),.agg (bj x),.int .i64 since,.int .i64 aN] (match r with|some l=> .tuple [.d (.slice 1 (l.map dC)),.d (.slice 7 (W.map bu)),.d (.bool true)]|none=> .tuple [.d (.slice 1 []),.d (.slice 7 []),.d (.bool false)]) [])
 (hr:∀l,r=some l->(∀p∈w.ai,bf p.ah=true)/\w.ai.length<=100000/\(lS w=true->x.kind=2->gM at_ d=true->since<=at_-d->at_+d<=aN->W.length<=4/\ ∀(i:Nat) wi,W[i]? =some wi->wi.ai.length<=100000/\ ∃a s,TrW x wi.ai a s/\(i=0->EP a s=cm)/\(0<i->(cm=true\/1<i)->mL a s at_ d=true))) :
 NQ.Fn cx 5 [.agg (bu w),.agg (bj x),.int .i64 since,.int .i64 aN,.int .i64 at_,.int .i64 d] (.d (.bool true)) []:=by
 refine eR (fun|9=>[66666,55555]|10=>[55555]|12=>[66666,55555]|13=>[66666,55555]|14=>[55555]|16=>[55555]|17=>[55555]|22=>[55555]|24=>[55555]|27=>[55555]|_=>[]) bo mixed Tryz.func5 ?_;conv=>whnf
 (refine⟨_,_,hQ,?_⟩;conv=>whnf)
 (refine⟨_,_,hY,?_⟩;conv=>whnf)
 cases r with
 |none =>
  conv=>whnf
  exact al rfl rfl
 |some l =>
 conv=>whnf
 obtain⟨hv,hn,hq⟩:=hr l rfl
 (refine⟨_,_,ND w hv hn,?_⟩;conv=>whnf)
 cases hlv:lS w with
 |false =>
  conv=>whnf
  exact al rfl rfl
 |true =>
 conv=>whnf
 by_cases k2:x.kind=2
 case neg =>
  rw[show(x.kind != 2)=true by simp[k2]];conv=>whnf
  exact al rfl rfl
 rw[show(x.kind != 2)=false by simp[k2]];conv=>whnf
 (refine⟨_,_,Rz at_ d,?_⟩;conv=>whnf)
 cases ht:gM at_ d with
 |false =>
  conv=>whnf
  exact al rfl rfl
 |true =>
 conv=>whnf
 have xK:=ht;unfold gM at xK;simp only[aU,decide_eq_true_eq]at xK;rw[show IntKind.i64.wrap (at_-d)=at_-d from wrap_i64 (by omega) (by omega)];refine aj (λh1=>?_) (λh1=>?_) <;> (rw[h1];conv=>whnf)
 .exact al rfl rfl
 rw[show IntKind.i64.wrap (at_+d)=at_+d from wrap_i64 (by omega) (by omega)];refine aj (λh2=>?_) (λh2=>?_) <;> (rw[h2];conv=>whnf)
 .exact al rfl rfl
 obtain⟨yu,hq⟩:=hq hlv k2 ht (by simp at h1;omega) (by simp at h2;omega);clear hr hY hQ h1 h2;refine⟨Nat×Bool,λq=>⟨[(4,.d (.int .i64 at_)),(5,.d (.int .i64 d)),(7,.ptr 7 0),(13,.d (.bool true)),(17,.d (.bool q.2)),(73,.d (.slice 7 (W.map bu))),(74,.d (.int .i64 ((W.map bu).length:Int))),(75,.d (.int .i64 q.1))],[(7,.box ((bj x).map .d))]⟩,λq=>q.1<=W.length/\(q.1=0->q.2=false)/\(0<q.1->q.2=cm),λq=>W.length-q.1,
  ⟨(0,false),⟨Nat.zero_le _,λ_=>rfl,λh=>absurd h (Nat.lt_irrefl _)⟩,aK.keep⟩,?_⟩
 rintro⟨i,c⟩ ⟨hi,hJ,hR⟩;dsimp only at hi hJ hR;conv=>whnf
 refine aj (λh1=>?_) (λh1=>?_) <;> (rw[h1];conv=>whnf)
 .have hC:i<W.length:=by simp at h1;omega
  obtain⟨wi,ks⟩:∃wi,W[i]? =some wi:=⟨_,au hC⟩
  obtain⟨kF,a,s,hT,xY,xr⟩:=hq i wi ks;have kE:=hT.val;obtain⟨kz,pz,ke,kk,yj,xH⟩:=hT.z;obtain⟨kp,pp,yl,xG,xM⟩:=hT.p;have xa:=(ej ke).1;have vz:=kE pz (aD xa);have vp:=kE pp (aD xG);have fz:pz.ah.ak.length<=100000:=by have:=(bQ vz).few;omega
  have fp:pp.ah.ak.length<=100000:=by have:=(bQ vp).few;omega
  have xN:=(dz vz).2 s (aD xH);obtain⟨ja,sa,_,yg,ym,_,_⟩:=wS xM;have xU:=(dz vp).2 sa (aD yg);rw[ym]at xU;have fC:=EU wi.ai x.ah kE kF;rw[ke,show Ln (some (kz,pz))=(kz:Int)from rfl]at fC;have fA:=Mk wi x.ah kE kF;rw[yl]at fA;have fT:=Kb pz.ah ⟨x.ah,7⟩ fz;rw[yj]at fT;have fF:=Fo pp.ah x.ah 6 fp;rw[xM]at fF;refine⟨aC i,bu wi,aM ks,?_⟩;conv=>whnf
  refine⟨_,aK.keep (sl:=[(4,.d (.int .i64 at_)),(5,.d (.int .i64 d)),(7,.ptr 7 0),(13,.d (.bool true)),(17,.d (.bool c)),(18,.d (.int .i64 i)),(19,.ptr 19 0),(73,.d (.slice 7 (W.map bu))),(74,.d (.int .i64 ((W.map bu).length:Int))),(75,.d (.int .i64 i))]) (h:=[(7,.box ((bj x).map .d)),(19,.box ((bu wi).map .d))]),?_⟩;conv=>whnf
  refine cu ?_;conv=>whnf
  (refine⟨_,_,fC,?_⟩;conv=>whnf)
  repeat (refine cO ?_;conv=>whnf)
  (refine⟨_,_,fA,?_⟩;conv=>whnf)
  repeat (refine cO ?_;conv=>whnf)
  refine⟨_,aK.keep (sl:=[(4,.d (.int .i64 at_)),(5,.d (.int .i64 d)),(7,.ptr 7 0),(13,.d (.bool true)),(17,.d (.bool c)),(18,.d (.int .i64 i)),(19,.ptr 19 0),(20,.d (.int .i64 kz)),(21,.d (.int .i64 kp)),(73,.d (.slice 7 (W.map bu))),(74,.d (.int .i64 ((W.map bu).length:Int))),(75,.d (.int .i64 i))]) (h:=[(7,.box ((bj x).map .d)),(19,.box ((bu wi).map .d))]),?_⟩;conv=>whnf
  rw[QE (aC kz)];conv=>whnf
  rw[QE (aC kp)];conv=>whnf
  refine⟨_,aK.keep (sl:=[(4,.d (.int .i64 at_)),(5,.d (.int .i64 d)),(7,.ptr 7 0),(13,.d (.bool true)),(17,.d (.bool c)),(18,.d (.int .i64 i)),(19,.ptr 19 0),(20,.d (.int .i64 kz)),(21,.d (.int .i64 kp)),(73,.d (.slice 7 (W.map bu))),(74,.d (.int .i64 ((W.map bu).length:Int))),(75,.d (.int .i64 i))]) (h:=[(7,.box ((bj x).map .d)),(19,.box ((bu wi).map .d))]),?_⟩;conv=>whnf
  refine cu ?_;conv=>whnf
  refine⟨aC kz,aR pz,aM xa,?_⟩;conv=>whnf
  repeat (refine cO ?_;conv=>whnf)
  (refine⟨_,_,fT,?_⟩;conv=>whnf)
  repeat (refine cO ?_;conv=>whnf)
  refine⟨_,aK.keep (sl:=[(4,.d (.int .i64 at_)),(5,.d (.int .i64 d)),(7,.ptr 7 0),(13,.d (.bool true)),(17,.d (.bool c)),(18,.d (.int .i64 i)),(19,.ptr 19 0),(20,.d (.int .i64 kz)),(21,.d (.int .i64 kp)),(22,.d (.int .i64 kk)),(73,.d (.slice 7 (W.map bu))),(74,.d (.int .i64 ((W.map bu).length:Int))),(75,.d (.int .i64 i))]) (h:=[(7,.box ((bj x).map .d)),(19,.box ((bu wi).map .d))]),?_⟩;conv=>whnf
  apply sU (α:=Unit) (P:=λ_=>True) (canon:=λ_=>⟨[(4,.d (.int .i64 at_)),(5,.d (.int .i64 d)),(7,.ptr 7 0),(13,.d (.bool true)),(17,.d (.bool c)),(18,.d (.int .i64 i)),(19,.ptr 19 0),(20,.d (.int .i64 kz)),(22,.d (.int .i64 kk)),(23,.ptr 23 0),(24,.d (.bool true)),(73,.d (.slice 7 (W.map bu))),(74,.d (.int .i64 ((W.map bu).length:Int))),(75,.d (.int .i64 i))],[(7,.box ((bj x).map .d)),(19,.box ((bu wi).map .d)),(23,.box ((cg a).map .d))]⟩)
  .intro rest;refine cu ?_;conv=>whnf
   repeat' (first
    |(refine⟨aC kp,aR pp,aM xG,?_⟩;conv=>whnf)
    |(refine cO ?_;conv=>whnf)
    |(refine⟨_,_,fF,?_⟩;conv=>whnf)
    |exact Mw (aK.keep) (rest () trivial)
    |(refine And.intro ?_ ?_ <;> (conv=>whnf))
    |fail)
  intro _ _;unfold App;conv=>whnf
  rw[QE (aC kk)];conv=>whnf
  refine⟨_,aK.keep (sl:=[(4,.d (.int .i64 at_)),(5,.d (.int .i64 d)),(7,.ptr 7 0),(13,.d (.bool true)),(17,.d (.bool c)),(18,.d (.int .i64 i)),(19,.ptr 19 0),(20,.d (.int .i64 kz)),(22,.d (.int .i64 kk)),(23,.ptr 23 0),(73,.d (.slice 7 (W.map bu))),(74,.d (.int .i64 ((W.map bu).length:Int))),(75,.d (.int .i64 i))]) (h:=[(7,.box ((bj x).map .d)),(19,.box ((bu wi).map .d)),(23,.box ((cg a).map .d))]),?_⟩;conv=>whnf
  refine⟨aC kz,aR pz,aM xa,?_⟩;conv=>whnf
  refine⟨aC kk,aw s,aM xH,?_⟩;conv=>whnf
  refine⟨_,aK.keep (sl:=[(4,.d (.int .i64 at_)),(5,.d (.int .i64 d)),(7,.ptr 7 0),(13,.d (.bool true)),(17,.d (.bool c)),(18,.d (.int .i64 i)),(23,.ptr 23 0),(25,.ptr 25 0),(73,.d (.slice 7 (W.map bu))),(74,.d (.int .i64 ((W.map bu).length:Int))),(75,.d (.int .i64 i))]) (h:=[(7,.box ((bj x).map .d)),(23,.box ((cg a).map .d)),(25,.box ((aw s).map .d))]),?_⟩;conv=>whnf
  by_cases i0:i=0
  .subst i0;have yd:c=false:=hJ rfl;subst yd;rw[show(((0:Nat):Int)==0)=true from rfl];conv=>whnf
   refine⟨Nat×Bool,λq=>⟨[(4,.d (.int .i64 at_)),(5,.d (.int .i64 d)),(7,.ptr 7 0),(13,.d (.bool true)),(17,.d (.bool q.2)),(25,.ptr 25 0),(73,.d (.slice 7 (W.map bu))),(74,.d (.int .i64 ((W.map bu).length:Int))),(75,.d (.int .i64 ((0:Nat):Int))),(136,.d (.slice 3 (a.data.map aQ))),(137,.d (.int .i64 ((a.data.map aQ).length:Int))),(138,.d (.int .i64 q.1))],[(7,.box ((bj x).map .d)),(25,.box ((aw s).map .d))]⟩,λq=>q.1<=a.data.length/\q.2=(a.data.take q.1).any λc=>s.set.data.any λe=>decide (c=e),λq=>a.data.length-q.1,
    ⟨(0,false),⟨Nat.zero_le _,rfl⟩,aK.keep⟩,?_⟩
   rintro⟨j,cj⟩ ⟨hj,kx⟩;dsimp only at hj kx;conv=>whnf
   refine aj (λh2=>?_) (λh2=>?_) <;> (rw[h2];conv=>whnf)
   .have xA:j<a.data.length:=by simp at h2;omega
    obtain⟨t,xL⟩:∃t,a.data[j]? =some t:=⟨_,au xA⟩
    refine⟨aC j,aQ t,aM xL,?_⟩;conv=>whnf
    refine⟨Nat×Bool,λq=>⟨[(4,.d (.int .i64 at_)),(5,.d (.int .i64 d)),(7,.ptr 7 0),(13,.d (.bool true)),(17,.d (.bool q.2)),(25,.ptr 25 0),(27,.ptr 27 0),(73,.d (.slice 7 (W.map bu))),(74,.d (.int .i64 ((W.map bu).length:Int))),(75,.d (.int .i64 ((0:Nat):Int))),(136,.d (.slice 3 (a.data.map aQ))),(137,.d (.int .i64 ((a.data.map aQ).length:Int))),(138,.d (.int .i64 j)),(144,.d (.slice 3 (s.set.data.map aQ))),(145,.d (.int .i64 ((s.set.data.map aQ).length:Int))),(146,.d (.int .i64 q.1))],[(7,.box ((bj x).map .d)),(25,.box ((aw s).map .d)),(27,.box ((aQ t).map .d))]⟩,λq=>q.1<=s.set.data.length/\q.2=(cj||(s.set.data.take q.1).any λe=>decide (t=e)),λq=>s.set.data.length-q.1,
     ⟨(0,cj),⟨Nat.zero_le _,by simp⟩,aK.keep⟩,?_⟩
    rintro⟨m,kv⟩ ⟨hm,hU⟩;dsimp only at hm hU;conv=>whnf
    refine⟨_,aK.keep (sl:=[(4,.d (.int .i64 at_)),(5,.d (.int .i64 d)),(7,.ptr 7 0),(13,.d (.bool true)),(17,.d (.bool kv)),(25,.ptr 25 0),(27,.ptr 27 0),(73,.d (.slice 7 (W.map bu))),(74,.d (.int .i64 ((W.map bu).length:Int))),(75,.d (.int .i64 ((0:Nat):Int))),(136,.d (.slice 3 (a.data.map aQ))),(137,.d (.int .i64 ((a.data.map aQ).length:Int))),(138,.d (.int .i64 j)),(144,.d (.slice 3 (s.set.data.map aQ))),(145,.d (.int .i64 ((s.set.data.map aQ).length:Int))),(146,.d (.int .i64 m))]) (h:=[(7,.box ((bj x).map .d)),(25,.box ((aw s).map .d)),(27,.box ((aQ t).map .d))]),?_⟩;conv=>whnf
    refine aj (λh3=>?_) (λh3=>?_) <;> (conv=>whnf)
    .have kX:m<s.set.data.length:=by simp at h3;omega
     have hex:∃u,s.set.data[m]? =some u:=⟨_,au kX⟩
     refine hex.elim λu hu=>?_
     have xD:(kv||decide (t=u))=(cj||(s.set.data.take (m+1)).any λe=>decide (t=e)):=by
      rw[bO hu,List.any_append,hU];simp[Bool.or_assoc]
     refine⟨aC m,aQ u,aM hu,?_⟩;conv=>whnf
     refine(Bool.eq_false_or_eq_true kv).elim (λe=>?_) (λe=>?_)
     .refine⟨_,aK.keep (sl:=[(4,.d (.int .i64 at_)),(5,.d (.int .i64 d)),(7,.ptr 7 0),(13,.d (.bool true)),(17,.d (.bool true)),(25,.ptr 25 0),(27,.ptr 27 0),(29,.ptr 29 0),(73,.d (.slice 7 (W.map bu))),(74,.d (.int .i64 ((W.map bu).length:Int))),(75,.d (.int .i64 ((0:Nat):Int))),(136,.d (.slice 3 (a.data.map aQ))),(137,.d (.int .i64 ((a.data.map aQ).length:Int))),(138,.d (.int .i64 j)),(144,.d (.slice 3 (s.set.data.map aQ))),(145,.d (.int .i64 ((s.set.data.map aQ).length:Int))),(146,.d (.int .i64 m))]) (h:=[(7,.box ((bj x).map .d)),(25,.box ((aw s).map .d)),(27,.box ((aQ t).map .d)),(29,.box ((aQ u).map .d))]) ⟨⟨rfl,rfl⟩,⟨rfl,rfl⟩,⟨rfl,rfl⟩,⟨rfl,rfl⟩,⟨congrArg (λb=>AV.d (.bool b)) e,rfl⟩,⟨rfl,rfl⟩,⟨rfl,rfl⟩,⟨rfl,rfl⟩,⟨rfl,rfl⟩,⟨rfl,rfl⟩,⟨rfl,rfl⟩,⟨rfl,rfl⟩,⟨rfl,rfl⟩,⟨rfl,rfl⟩,⟨rfl,rfl⟩,⟨rfl,rfl⟩,⟨rfl,rfl⟩,trivial⟩,?_⟩
      conv=>whnf
      exact⟨(m+1,true),⟨kX,by rw[<- xD,e];rfl⟩,by(show s.set.data.length-(m+1)<s.set.data.length-m;omega),aK.keep ⟨ae,ae,ae,ae,ae,ae,ae,ae,ae,ae,ae,ae,ae,ae,ae,⟨ax (k:=m) (by omega),rfl⟩,trivial⟩⟩
     .refine⟨_,aK.keep (sl:=[(4,.d (.int .i64 at_)),(5,.d (.int .i64 d)),(7,.ptr 7 0),(13,.d (.bool true)),(17,.d (.bool false)),(25,.ptr 25 0),(27,.ptr 27 0),(29,.ptr 29 0),(73,.d (.slice 7 (W.map bu))),(74,.d (.int .i64 ((W.map bu).length:Int))),(75,.d (.int .i64 ((0:Nat):Int))),(136,.d (.slice 3 (a.data.map aQ))),(137,.d (.int .i64 ((a.data.map aQ).length:Int))),(138,.d (.int .i64 j)),(144,.d (.slice 3 (s.set.data.map aQ))),(145,.d (.int .i64 ((s.set.data.map aQ).length:Int))),(146,.d (.int .i64 m))]) (h:=[(7,.box ((bj x).map .d)),(25,.box ((aw s).map .d)),(27,.box ((aQ t).map .d)),(29,.box ((aQ u).map .d))]) ⟨⟨rfl,rfl⟩,⟨rfl,rfl⟩,⟨rfl,rfl⟩,⟨rfl,rfl⟩,⟨congrArg (λb=>AV.d (.bool b)) e,rfl⟩,⟨rfl,rfl⟩,⟨rfl,rfl⟩,⟨rfl,rfl⟩,⟨rfl,rfl⟩,⟨rfl,rfl⟩,⟨rfl,rfl⟩,⟨rfl,rfl⟩,⟨rfl,rfl⟩,⟨rfl,rfl⟩,⟨rfl,rfl⟩,⟨rfl,rfl⟩,⟨rfl,rfl⟩,trivial⟩,?_⟩
      conv=>whnf
      refine⟨(m+1,decide (t=u)),⟨kX,by rw[<- xD,e];rfl⟩,by(show s.set.data.length-(m+1)<s.set.data.length-m;omega),aK.keep ⟨ae,ae,ae,ae,⟨?_,rfl⟩,ae,ae,ae,ae,ae,ae,ae,ae,ae,ae,⟨ax (k:=m) (by omega),rfl⟩,trivial⟩⟩;rw[<- sW];rfl
    .obtain rfl:m=s.set.data.length:=by simp at h3;omega
     rw[List.take_length]at hU;exact⟨(j+1,kv),⟨xA,by rw[bO xL,List.any_append, <- kx,hU];simp⟩,by(show a.data.length-(j+1)<a.data.length-j;omega),aK.keep ⟨ae,ae,ae,ae,ae,ae,ae,ae,ae,ae,ae,⟨ax (k:=j) (by omega),rfl⟩,trivial⟩⟩
   .obtain rfl:j=a.data.length:=by simp at h2;omega
    rw[List.take_length]at kx;exact⟨(1,cj),⟨hC,(λh=>by cases h),λ_=>by rw[kx];exact xY rfl⟩,by(show W.length-1<W.length-0;omega),aK.keep⟩
  .rw[show((i:Int)==0)=false by simp[i0]];conv=>whnf
   refine⟨_,aK.keep (sl:=[(4,.d (.int .i64 at_)),(5,.d (.int .i64 d)),(7,.ptr 7 0),(13,.d (.bool true)),(17,.d (.bool c)),(18,.d (.int .i64 i)),(23,.ptr 23 0),(25,.ptr 25 0),(73,.d (.slice 7 (W.map bu))),(74,.d (.int .i64 ((W.map bu).length:Int))),(75,.d (.int .i64 i))]) (h:=[(7,.box ((bj x).map .d)),(23,.box ((cg a).map .d)),(25,.box ((aw s).map .d))]),?_⟩;conv=>whnf
   have ye:=hR (by omega);subst ye;cases c with
   |true =>
    have fM:=FV a s at_ d xN.2;rw[xr (by omega) (.inl rfl)]at fM;conv=>whnf
    (refine⟨_,_,fM,?_⟩;conv=>whnf)
    exact⟨(i+1,true),⟨hC,λh=>absurd h (Nat.succ_ne_zero i),λ_=>rfl⟩,by(show W.length-(i+1)<W.length-i;omega),aK.keep ⟨ae,ae,ae,ae,ae,ae,ae,⟨ax (k:=i) (by omega),rfl⟩,trivial⟩⟩
   |false =>
    conv=>whnf
    by_cases i1:1<i
    .have fM:=FV a s at_ d xN.2;rw[xr (by omega) (.inr i1)]at fM;rw[show decide ((i:Int)>1)=true from decide_eq_true (by omega)];conv=>whnf
     (refine⟨_,_,fM,?_⟩;conv=>whnf)
     exact⟨(i+1,false),⟨hC,λh=>absurd h (Nat.succ_ne_zero i),λ_=>rfl⟩,by(show W.length-(i+1)<W.length-i;omega),aK.keep ⟨ae,ae,ae,ae,ae,ae,ae,⟨ax (k:=i) (by omega),rfl⟩,trivial⟩⟩
    .rw[show decide ((i:Int)>1)=false from decide_eq_false (by omega)];conv=>whnf
     exact⟨(i+1,false),⟨hC,λh=>absurd h (Nat.succ_ne_zero i),λ_=>rfl⟩,by(show W.length-(i+1)<W.length-i;omega),aK.keep ⟨ae,ae,ae,ae,ae,ae,ae,⟨ax (k:=i) (by omega),rfl⟩,trivial⟩⟩
 .exact al rfl rfl
theorem IL{w:aZ}{l:List (List ao)}{k n:Nat}(h:k<=n):(gV w l n)[k]? =some (fZ w l k):=by
 unfold gV;rw[bc,List.getElem?_range (by omega)];rfl
theorem Qj{w:aZ}{x:bA}{since aN at_ d:Int}{o:bz}(h:nf w x since aN=some o)(hE:fm w=true)(hx:fQ w x=true)(hK:lS w=true)(k2:x.kind=2)(ht:gM at_ d=true)(ki:since<=at_-d)(kj:at_+d<=aN) :
 ∃a0 s0,o.bp.length=3/\ ∀(i:Nat),i<=3-> ∃a s,TrW x (fZ w o.bp i).ai a s/\(i=0->a=a0/\s=s0)/\(0<i->((∃c∈a0.data,c∈s0.set.data)\/1<i)->mL a s at_ d=true):=by
 have hv:im w.ai:=λp hp=>(gN hE p hp).1
 unfold fQ at hx;simp only[aU,Bool.not_eq_true',Bool.or_eq_false_iff,Bool.not_eq_false']at hx;obtain⟨_,hc,hk⟩:=hx;unfold nf at h;split at h
 case isFalse=>cases h
 unfold uk at h;rw[k2,if_neg (by decide),if_pos rfl]at h;obtain⟨P1,P2,P3,hs,a0,s0,t0,⟨a1,s1,t1,m1⟩,⟨a2,s2,t2,m2⟩,a3,s3,t3,m3⟩:=HA h hv (λp hp q hq e=>Qs hK hp hq e) hc rfl rfl rfl rfl ht ki kj;refine⟨a0,s0,by rw[hs];rfl,λi hi=>?_⟩;rw[show(fZ w o.bp i).ai=zw w (o.bp.take i)from Mf w _,hs];rcases i with _|_|_|_|i
 .exact⟨a0,s0,t0,λ_=>⟨rfl,rfl⟩,λh=>absurd h (Nat.lt_irrefl _)⟩
 .exact⟨a1,s1,t1,λh=>absurd h (by decide),λ_ hh=>m1 (hh.resolve_right (by decide))⟩
 .exact⟨a2,s2,t2,λh=>absurd h (by decide),λ_ _=>m2⟩
 .exact⟨a3,s3,t3,λh=>absurd h (by decide),λ_ _=>m3⟩
 .omega
theorem Px{a:cG}{s:Signed}:EP a s=true ↔ ∃c∈a.data,c∈s.set.data:=by
 unfold EP;rw[List.any_eq_true];refine exists_congr λc=>and_congr_right λ_=>?_
 rw[List.any_eq_true];exact⟨λ⟨e,h1,h2⟩=>by rw[of_decide_eq_true h2];exact h1,λh=>⟨c,h,decide_eq_true rfl⟩⟩
theorem GV(w:aZ)(x:bA)(since:Int)(b2:(Lit.int .i64 since).wf=true)(aN:Int)(b3:(Lit.int .i64 aN).wf=true)(at_:Int)(b4:(Lit.int .i64 at_).wf=true)(hf:Int)(b5:(Lit.int .i64 hf).wf=true):NQ.Fn cx 5 [.agg (bu w),.agg (bj x),.int .i64 since,.int .i64 aN,.int .i64 at_,.int .i64 hf] (.d (.bool true)) []:=by
 have hY:=Iz w x since aN;have key:∃cm,∀l,jg w x since aN=some l->lS w=true->x.kind=2->gM at_ hf=true->since<=at_-hf->at_+hf<=aN->l.length=3/\ ∀i,i<=3-> ∃a s,TrW x (fZ w l i).ai a s/\(i=0->EP a s=cm)/\(0<i->(cm=true\/1<i)->mL a s at_ hf=true):=by
  by_cases hh:∃l,jg w x since aN=some l/\lS w=true/\x.kind=2/\gM at_ hf=true/\since<=at_-hf/\at_+hf<=aN
  .obtain⟨l,hl,h1,h2,h3,h4,h5⟩:=hh;obtain⟨o,rfl,ho,kl,hx,hE,_,_⟩:=Bi hl;obtain⟨a0,s0,hn,hq⟩:=Qj ho hE hx h1 h2 h3 h4 h5;refine⟨EP a0 s0,λl' xC _ _ _ _ _=>?_⟩;rw[hl]at xC;cases xC;refine⟨hn,λi hi=>?_⟩;obtain⟨a,s,q1,q2,q3⟩:=hq i hi;refine⟨a,s,q1,λh=>?_,λh h' =>q3 h (h'.imp_left Px.1)⟩;obtain⟨rfl,rfl⟩:=q2 h;rfl
  .exact⟨false,λl hl h1 h2 h3 h4 h5=>absurd ⟨l,hl,h1,h2,h3,h4,h5⟩ hh⟩
 obtain⟨cm,hU⟩:=key;refine Rp w x since aN at_ hf (jg w x since aN) ((jg w x since aN).elim [] λl=>gV w l l.length) cm Nj ?_ λl hl=>?_
 .cases hs:jg w x since aN with
  |none=>rw[hs]at hY;exact hY
  |some l=>rw[hs]at hY;exact hY
 .have hU:=hU l hl;rw[hl];obtain⟨o,rfl,ho,kl,hx,hE,_,_⟩:=Bi hl;have hZ:=(ub kl).2.2.1;have ko:=(JI ho hE hx hZ).1;refine⟨λp hp=>(gN hE p hp).1,by omega,λh1 h2 h3 h4 h5=>?_⟩;obtain⟨hn,hq⟩:=hU h1 h2 h3 h4 h5;have hlen:(gV w o.bp o.bp.length).length=4:=by unfold gV;rw[aA,List.length_range,hn]
  refine⟨Nat.le_of_eq hlen,λi wi ks=>?_⟩;have hi:i<=3:=by
   have:=(aB.1 ks).1;rw[show((some o.bp).elim [] λl=>gV w l l.length)=gV w o.bp o.bp.length from rfl]at this;omega
  have e:fZ w o.bp i=wi:=Option.some.inj ((IL (by omega)).symm.trans ks);subst e;have hlen:=sL (w:=w) (λs hs=>(ko.st s hs).2.1) i (by omega);have hmul:i*2000<=3*2000:=Nat.mul_le_mul_right _ hi;exact⟨by omega,hq i hi⟩
end Go.Proofs.YtodofogcincleaaGreatDoor
