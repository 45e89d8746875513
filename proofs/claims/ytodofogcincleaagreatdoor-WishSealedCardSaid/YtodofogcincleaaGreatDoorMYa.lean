/-
  Merged texts.
-/
import Derived.Test.YtodofogcincleaaGreatDoorMQbs
import Derived.Test.YtodofogcincleaaGreatDoorMGk
set_option linter.all false
set_option maxRecDepth 100000
namespace NP
open NQ Go
def fJ(c:Int):List D:=[.int .u8 c]
def cK(n:Int):List D:=[.int .i64 n]
def Rz(x c:Int):Int:=IntKind.u64.wrap (MW .u64 x (IntKind.u64.wrap c)*1099511628211)
def kK:Int->List Int->Int
 |x,[]=>x
 |x,c::t=>kK (Rz x c) t
def dL(n:Int):List Int:=(List.range 8).map λi=>IntKind.u8.wrap ((IntKind.u64.wrap n).fdiv (2 ^ (56-8*i)))
def oY:Int->List Int->Int
 |x,[]=>x
 |x,n::t=>oY (kK x (dL n)) t
def rI(s:Bs):List Int:=s.map λc=>(c.toNat:Int)
theorem BL(s:Bs):dD s=(rI s).map fJ:=by simp[dD,rI,fJ,Function.comp_def]
def Pc(set:List Int)(zone:Bs)(n m since till:Int):Int :=
 oY (kK (kK (kK 14695981039346656037 set) [IntKind.u8.wrap (zone.length:Int)]) (rI zone)) [n,m,since,till]
def ry(n m:Int):List D:=[.int .i64 n,.int .i64 m]
end NP
namespace Go.Proofs.YtodofogcincleaaGreatDoor
open NQ Go NP Go.RowKit
theorem vB(x:Int)(l:List Int)(hl:l.length<=100000000):FnB cx 162 [.int .u64 x] [.slice 1 (l.map fJ)] (.tuple []) [.int .u64 (kK x l)]:=by
 refine IL (λ_=>[]) aV mixed Tryz.func162 (by kernel_rfl) rfl (ag rfl) (ag rfl) ?_;conv=>whnf
 refine⟨Nat×Int,λy=>⟨[(0,.ptr 100000 0),(6,.d (.slice 1 (l.map fJ))),(7,.d (.int .i64 ((l.map fJ).length:Int))),(8,.d (.int .i64 y.1))],[(100000,.box [.d (.int .u64 y.2)])]⟩,
  λy=>y.1<=l.length/\kK y.2 (l.drop y.1)=kK x l,λy=>l.length-y.1,⟨(0,x),⟨by omega,rfl⟩,aF.keep ⟨ae,ae,ae,ae,trivial⟩ ⟨ae,trivial⟩⟩,?_⟩
 rintro⟨k,d⟩ ⟨hk,hc⟩;simp only at hk hc
 conv=>whnf
 refine af (λh1=>?_) (λh1=>?_) <;> (rw[h1];conv=>whnf)
 . have hlt:k<l.length:=by simp at h1;omega
   obtain⟨c,hck⟩:∃c,l[k]? =some c:=⟨_,aj hlt⟩
   rw[drop_cons hck,kK]at hc;refine⟨aw k,fJ c,aD hck,?_⟩
   conv=>whnf
   refine⟨(k+1,Rz d c),⟨hlt,hc⟩,by(show l.length-(k+1)<l.length-k;omega),aF.keep ⟨ae,ae,ae,⟨an (by omega),rfl⟩,trivial⟩ ⟨ae,trivial⟩⟩
 . obtain rfl:k=l.length:=by simp at h1;omega
   rw[List.drop_length,kK]at hc;refine⟨[],_,_,rfl,rfl,rfl,?_⟩;rw[<- hc];rfl
noncomputable def fY (l:List (Nat×Nat)) (f:Nat):Nat:=match find l f with|some n=>n|none=>cx.chg f
noncomputable def cxG:Cx:={cx with chg:=fY [(162,3),(161,9)],bld:=[19,31]}
theorem tyG:ba cxG:=aV
theorem LI:cxG.P.follows .mixedOrders=true:=mixed
def pv0:Int->Value:=λ_=>undef
theorem Pb(x:Int)(l:List Int)(hl:l.length<=100000):FnP cxG pv0 161 [.d (.slice 1 (l.map cK)),.ptr 100011 0] [(100011,.box [.d (.int .u64 x)])] (some (.tuple [],[(100011,.box [.d (.int .u64 (oY x l))])])):=by
 refine aT [] (fun|9=>[33333,5]|_=>[]) tyG LI Tryz.func161 (by kernel_rfl) rfl (ag rfl) (ag rfl) rfl ?_
 conv=>whnf
 refine⟨Nat×Int,λy=>⟨[(1,.ptr 100011 0),(7,.d (.slice 1 (l.map cK))),(8,.d (.int .i64 ((l.map cK).length:Int))),(9,.d (.int .i64 y.1))],[(100011,.box [.d (.int .u64 y.2)])]⟩,
  λy=>y.1<=l.length/\oY y.2 (l.drop y.1)=oY x l,λy=>l.length-y.1,⟨(0,x),⟨by omega,rfl⟩,(ah.keep ⟨ae,ae,ae,ae,trivial⟩ ⟨ae,trivial⟩)⟩,?_⟩
 rintro⟨k,d⟩ ⟨hk,hc⟩;simp only at hk hc
 conv=>whnf
 refine af (λh1=>?_) (λh1=>?_) <;> (rw[h1];conv=>whnf)
 . have hlt:k<l.length:=by simp at h1;omega
   obtain⟨n,hnk⟩:∃n,l[k]? =some n:=⟨_,aj hlt⟩
   rw[drop_cons hnk,oY]at hc;refine⟨aw k,cK n,aD hnk,?_⟩
   conv=>whnf
   refine⟨Nat,λi=>⟨[(1,.ptr 100011 0),(4,.d (.int .i64 n)),(5,.ptr 5 0),(7,.d (.slice 1 (l.map cK))),(8,.d (.int .i64 ((l.map cK).length:Int))),(9,.d (.int .i64 k)),(13,.d (.int .i64 i))],[(100011,.box [.d (.int .u64 d)]),(5,.box (((dL n).take i++List.replicate (8-i) 0).map λc=> .d (.int .u8 c)))]⟩,
    λi=>i<=8,λi=>8-i,⟨0,by omega,(ah.keep ⟨ae,ae,ae,ae,ae,ae,ae,trivial⟩ ⟨ae,ae,trivial⟩)⟩,?_⟩
   intro i hi;rcases i with _|_|_|_|_|_|_|_|_|i
   case succ.succ.succ.succ.succ.succ.succ.succ.succ=>omega
   all_goals conv=>whnf
   all_goals try (refine⟨by decide,by decide,?_⟩;conv=>whnf)
   . exact⟨1,by decide,by decide,ah.keep ⟨ae,ae,ae,ae,ae,ae,ae,trivial⟩ ⟨ae,⟨by kernel_rfl,rfl⟩,trivial⟩⟩
   . exact⟨2,by decide,by decide,ah.keep ⟨ae,ae,ae,ae,ae,ae,ae,trivial⟩ ⟨ae,⟨by kernel_rfl,rfl⟩,trivial⟩⟩
   . exact⟨3,by decide,by decide,ah.keep ⟨ae,ae,ae,ae,ae,ae,ae,trivial⟩ ⟨ae,⟨by kernel_rfl,rfl⟩,trivial⟩⟩
   . exact⟨4,by decide,by decide,ah.keep ⟨ae,ae,ae,ae,ae,ae,ae,trivial⟩ ⟨ae,⟨by kernel_rfl,rfl⟩,trivial⟩⟩
   . exact⟨5,by decide,by decide,ah.keep ⟨ae,ae,ae,ae,ae,ae,ae,trivial⟩ ⟨ae,⟨by kernel_rfl,rfl⟩,trivial⟩⟩
   . exact⟨6,by decide,by decide,ah.keep ⟨ae,ae,ae,ae,ae,ae,ae,trivial⟩ ⟨ae,⟨by kernel_rfl,rfl⟩,trivial⟩⟩
   . exact⟨7,by decide,by decide,ah.keep ⟨ae,ae,ae,ae,ae,ae,ae,trivial⟩ ⟨ae,⟨by kernel_rfl,rfl⟩,trivial⟩⟩
   . exact⟨8,by decide,by decide,ah.keep ⟨ae,ae,ae,ae,ae,ae,ae,trivial⟩ ⟨ae,⟨by kernel_rfl,rfl⟩,trivial⟩⟩
   . refine⟨_,_,vB d (dL n) (by simp[dL]),?_⟩
     conv=>whnf
     exact⟨(k+1,kK d (dL n)),⟨hlt,hc⟩,by(show l.length-(k+1)<l.length-k;omega),ah.keep ⟨ae,ae,ae,⟨an (by omega),rfl⟩,trivial⟩ ⟨ae,trivial⟩⟩
 . obtain rfl:k=l.length:=by simp at h1;omega
   rw[List.drop_length,oY]at hc;exact .inl ⟨[],(ah.keep trivial ⟨⟨by rw[<- hc];rfl,rfl⟩,trivial⟩),rfl⟩
theorem Sl(set:List Int)(zone:Bs)(n m since till:Int)(h1:set.length<=10000000)(h2:zone.length<=1000000):NQ.Fn cxG 97 [.slice 1 (set.map fJ),.str zone,.agg (ry n m),.int .i64 since,.int .i64 till] (.d (.int .u64 (Pc set zone n m since till))) []:=by
 refine iB (pv:=pv0) ?_;refine aT [100011] (fun|3=>[55555]|5=>[33333]|6=>[33333,55555]|_=>[]) tyG LI Tryz.func97 (by kernel_rfl) rfl (ag rfl) (ag rfl) rfl ?_;have key:∀x1 x2 x3 x4:Int,x1=kK 14695981039346656037 set->x2=kK x1 [IntKind.u8.wrap (zone.length:Int)]->x3=kK x2 (rI zone)->x4=oY x3 [n,m,since,till]->Pc set zone n m since till=x4:=by
  rintro _ _ _ _ rfl rfl rfl rfl;rfl
 obtain⟨x1,e1⟩:∃x,x=kK 14695981039346656037 set:=⟨_,rfl⟩
 obtain⟨x2,e2⟩:∃x,x=kK x1 [IntKind.u8.wrap (zone.length:Int)]:=⟨_,rfl⟩
 obtain⟨x3,e3⟩:∃x,x=kK x2 (rI zone):=⟨_,rfl⟩
 obtain⟨x4,e4⟩:∃x,x=oY x3 [n,m,since,till]:=⟨_,rfl⟩
 rw[key x1 x2 x3 x4 e1 e2 e3 e4];have f1:=vB 14695981039346656037 set (by omega);rw[<- e1]at f1;have f2:=vB x1 [IntKind.u8.wrap (zone.length:Int)] (by simp);rw[<- e2]at f2;have f3:=vB x2 (rI zone) (by rw[rI,ao];omega);rw[<- e3, <- BL]at f3;have f4:=Pb x3 [n,m,since,till] (by simp);rw[<- e4]at f4;clear key e1 e2 e3 e4
 conv=>whnf
 refine⟨_,ah.name 11 100011 rfl rfl,?_⟩
 conv=>whnf
 refine⟨_,_,f1,?_⟩
 conv=>whnf
 refine⟨_,_,f2,?_⟩
 conv=>whnf
 refine⟨_,_,f3,?_⟩
 conv=>whnf
 refine⟨_,ah.keep (sl:=[(3,.d (.int .i64 since)),(4,.d (.int .i64 till)),(7,.ptr 7 0),(11,.ptr 100011 0),(12,.fn 161 [] [.ptr 100011 0])]) (h:=[(7,.box [.d (.int .i64 n),.d (.int .i64 m)]),(100011,.box [.d (.int .u64 x3)])]) ⟨⟨rfl,rfl⟩,⟨rfl,rfl⟩,⟨rfl,rfl⟩,⟨rfl,rfl⟩,⟨rfl,rfl⟩,trivial⟩ ⟨⟨rfl,rfl⟩,⟨rfl,rfl⟩,trivial⟩,?_⟩
 conv=>whnf
 refine⟨[7],_,f4,⟨rfl,rfl,rfl⟩,?_⟩
 conv=>whnf
 refine aA ?_
 conv=>whnf
 exact .inl ⟨[(10,.d (.int .u64 x4))],ah.keep ⟨ae,trivial⟩ trivial,rfl⟩
end Go.Proofs.YtodofogcincleaaGreatDoor
namespace NP
open NQ Go
def fw(t:Bs):List Int:=IntKind.u8.wrap (t.length:Int)::rI t
def IB(d:Datum):List Int:=fw d.text++dL d.n++dL d.m
def fu:List Datum->List Int
 |[]=>[]
 |d::t=>IB d++fu t
def setBytes(s:ck):List Int:=fw s.name++dL s.type++dL s.life++[IntKind.u8.wrap (s.data.length:Int)]++fu s.data
theorem tF(s:Bs):(rI s).length=s.length:=by simp[rI]
theorem qd(n:Int):(dL n).length=8:=by simp[dL]
theorem Ds(d:Datum):(IB d).length=d.text.length+17:=by simp[IB,fw,tF,qd]
theorem Be:∀a b:List Datum,fu (a++b)=fu a++fu b
 |[],b=>rfl
 |d::t,b=>by simp[fu,Be t b]
theorem uo:∀(l:List Datum) (_:∀d∈l,d.text.length<=100000),(fu l).length<=l.length*100017
 |[],_=>by simp[fu]
 |d::t,h=>by
  have h1:=uo t λd hd=>h d (aZ _ hd)
  have h2:=h d (List.mem_cons_self ..);simp only[fu,List.length_append,Ds,List.length_cons];omega
end NP
namespace Go.Proofs.YtodofogcincleaaGreatDoor
open NQ Go NP Go.RowKit
noncomputable def cxY:Cx:={cx with chg:=fY [(159,9),(160,9)],bld:=[9,16,27]}
theorem tyY:ba cxY:=aV
theorem yP:cxY.P.follows .mixedOrders=true:=mixed
abbrev mh(l:List Int):Blk:= .row 5 1 (l.map fJ)
theorem wo(l:List Int)(t:Bs)(hl:l.length<=10000000000000)(ht:t.length<=1000000000):FnP cxY pv0 159 [.own 90050,.d (.str t)] [(90050,mh l)] (some (.own 90050,[(90050,mh (l++fw t))])):=by
 refine aT [] (fun|2=>[33333]|_=>[]) tyY yP Tryz.func159 (by kernel_rfl) rfl (ag rfl) (ag rfl) rfl ?_
 conv=>whnf
 refine⟨by(show(l.map fJ).length+1<=_;rw[ao];omega),by(show((l.map fJ).length+1)*1<=_;rw[ao];omega),?_⟩
 conv=>whnf
 refine⟨by(show(l.map fJ++_).length+t.length<=_;rw[List.length_append,ao];show l.length+1+t.length<=_;omega),?_⟩
 conv=>whnf
 refine .inl ⟨[(4,.own 90050)],ah.keep ⟨ae,trivial⟩ ⟨⟨?_,rfl⟩,trivial⟩,rfl⟩;show some (Blk.row _ _ (l.map fJ++[[_]]++dD t))=some (Blk.row _ _ _)
 rw[BL,fw,List.map_append,List.append_assoc];rfl
theorem oV(l:List Int)(n:Int)(hl:l.length<=10000000000000):FnP cxY pv0 160 [.own 90050,.d (.int .i64 n)] [(90050,mh l)] (some (.own 90050,[(90050,mh (l++dL n))])):=by
 refine aT [] (fun|_=>[]) tyY yP Tryz.func160 (by kernel_rfl) rfl (ag rfl) (ag rfl) rfl ?_
 conv=>whnf
 refine⟨Nat,λi=>⟨[(0,.own 90050),(1,.d (.int .i64 n)),(5,.d (.int .i64 (56-8*(i:Int))))],[(90050,mh (l++(dL n).take i))]⟩,λi=>i<=8,λi=>8-i,⟨0,by omega,ah.keep ⟨ae,ae,ae,trivial⟩ ⟨⟨by(show some (Blk.row _ _ _)=some (Blk.row _ _ _);rw[List.take_zero,List.append_nil]),rfl⟩,trivial⟩⟩,?_⟩;intro i hi;have step:∀i,i<8->(l++(dL n).take i).map fJ++[[D.int .u8 (IntKind.u8.wrap ((IntKind.u64.wrap n).fdiv (2 ^ (56-8*i))))]]=(l++(dL n).take (i+1)).map fJ:=λi hi=>by
  have h:(dL n)[i]? =some (IntKind.u8.wrap ((IntKind.u64.wrap n).fdiv (2 ^ (56-8*i)))):=by simp[dL,hi]
  rw[List.take_add_one,h];simp[fJ]
 have hlen:∀i,i<8->((l++(dL n).take i).map fJ).length+1<=10000000000100:=λi hi=>by
  rw[ao,List.length_append,List.length_take];omega
 have h8:(dL n).take 8=dL n:=List.take_of_length_le (by simp[dL]);rcases i with _|_|_|_|_|_|_|_|_|i
 case succ.succ.succ.succ.succ.succ.succ.succ.succ=>omega
 all_goals conv=>whnf
 . refine⟨Nat.le_trans (hlen 0 (by omega)) (by decide),(Nat.mul_one _).symm ▸ Nat.le_trans (hlen 0 (by omega)) (by decide),?_⟩
   conv=>whnf
   exact⟨1,by decide,by decide,ah.keep ⟨ae,ae,ae,trivial⟩ ⟨⟨congrArg (λr=>some (Blk.row 5 1 r)) (step 0 (by omega)),rfl⟩,trivial⟩⟩
 . refine⟨Nat.le_trans (hlen 1 (by omega)) (by decide),(Nat.mul_one _).symm ▸ Nat.le_trans (hlen 1 (by omega)) (by decide),?_⟩
   conv=>whnf
   exact⟨2,by decide,by decide,ah.keep ⟨ae,ae,ae,trivial⟩ ⟨⟨congrArg (λr=>some (Blk.row 5 1 r)) (step 1 (by omega)),rfl⟩,trivial⟩⟩
 . refine⟨Nat.le_trans (hlen 2 (by omega)) (by decide),(Nat.mul_one _).symm ▸ Nat.le_trans (hlen 2 (by omega)) (by decide),?_⟩
   conv=>whnf
   exact⟨3,by decide,by decide,ah.keep ⟨ae,ae,ae,trivial⟩ ⟨⟨congrArg (λr=>some (Blk.row 5 1 r)) (step 2 (by omega)),rfl⟩,trivial⟩⟩
 . refine⟨Nat.le_trans (hlen 3 (by omega)) (by decide),(Nat.mul_one _).symm ▸ Nat.le_trans (hlen 3 (by omega)) (by decide),?_⟩
   conv=>whnf
   exact⟨4,by decide,by decide,ah.keep ⟨ae,ae,ae,trivial⟩ ⟨⟨congrArg (λr=>some (Blk.row 5 1 r)) (step 3 (by omega)),rfl⟩,trivial⟩⟩
 . refine⟨Nat.le_trans (hlen 4 (by omega)) (by decide),(Nat.mul_one _).symm ▸ Nat.le_trans (hlen 4 (by omega)) (by decide),?_⟩
   conv=>whnf
   exact⟨5,by decide,by decide,ah.keep ⟨ae,ae,ae,trivial⟩ ⟨⟨congrArg (λr=>some (Blk.row 5 1 r)) (step 4 (by omega)),rfl⟩,trivial⟩⟩
 . refine⟨Nat.le_trans (hlen 5 (by omega)) (by decide),(Nat.mul_one _).symm ▸ Nat.le_trans (hlen 5 (by omega)) (by decide),?_⟩
   conv=>whnf
   exact⟨6,by decide,by decide,ah.keep ⟨ae,ae,ae,trivial⟩ ⟨⟨congrArg (λr=>some (Blk.row 5 1 r)) (step 5 (by omega)),rfl⟩,trivial⟩⟩
 . refine⟨Nat.le_trans (hlen 6 (by omega)) (by decide),(Nat.mul_one _).symm ▸ Nat.le_trans (hlen 6 (by omega)) (by decide),?_⟩
   conv=>whnf
   exact⟨7,by decide,by decide,ah.keep ⟨ae,ae,ae,trivial⟩ ⟨⟨congrArg (λr=>some (Blk.row 5 1 r)) (step 6 (by omega)),rfl⟩,trivial⟩⟩
 . refine⟨Nat.le_trans (hlen 7 (by omega)) (by decide),(Nat.mul_one _).symm ▸ Nat.le_trans (hlen 7 (by omega)) (by decide),?_⟩
   conv=>whnf
   exact⟨8,by decide,by decide,ah.keep ⟨ae,ae,ae,trivial⟩ ⟨⟨congrArg (λr=>some (Blk.row 5 1 r)) (step 7 (by omega)),rfl⟩,trivial⟩⟩
 . refine .inl ⟨[(4,.own 90050)],ah.keep ⟨ae,trivial⟩ ⟨⟨?_,rfl⟩,trivial⟩,rfl⟩;show some (Blk.row _ _ ((l++(dL n).take 8).map fJ))=some (Blk.row _ _ _)
   rw[h8]
set_option maxHeartbeats 1000000 in
theorem KI(s:ck)(hv:dG s=true)(h1:s.name.length<=100000)(h2:∀d∈s.data,d.text.length<=100000)(h3:s.data.length<=10000) :
 FnP cxY pv0 96 [.agg ((bJ s).map .d)] [] (some (.tuple [.own 90050,.d (.int .i64 0)],[(90050,mh (setBytes s))])):=by
 refine aT [] (fun|4=>[33333,55555]|5=>[33333,55555]|6=>[33333,55555]|7=>[55555]|11=>[33333]|12=>[33333,55555]|13=>[33333,55555]|_=>[]) tyY yP Tryz.func96 (by kernel_rfl) rfl (ag rfl) (ag rfl) rfl ?_
 conv=>whnf
 (refine⟨_,_,lP s,?_⟩;conv=>whnf)
 rw[hv]
 conv=>whnf
 have hb:=uo s.data h2;have l1:(fw s.name).length<=100001:=by rw[fw,List.length_cons,tF];omega
 have l2:(fw s.name++dL s.type).length<=100010:=by rw[List.length_append,qd];omega
 have l3:(fw s.name++dL s.type++dL s.life).length<=100020:=by rw[List.length_append,qd];omega
 have lk:∀k,(fw s.name++dL s.type++dL s.life++[IntKind.u8.wrap (s.data.length:Int)]++fu (s.data.take k)).length<=2000000000:=λk=>by
  have h4:=uo (s.data.take k) λd hd=>h2 d (List.mem_of_mem_take hd)
  have h5:(s.data.take k).length<=s.data.length:=by rw[List.length_take];omega
  have h6:(s.data.take k).length*100017<=s.data.length*100017:=Nat.mul_le_mul_right _ h5;simp only[List.length_append,List.length_singleton]at l3 ⊢;omega
 refine⟨_,(ah.kj 4 90050 1 5 1 rfl rfl (by decide)).trans (ah.keep (sl:=[(1,.ptr 1 0),(4,.own 90050)]) (h:=[(1,.box ((bJ s).map .d)),(90050,mh [])]) ⟨⟨rfl,rfl⟩,⟨rfl,rfl⟩,trivial⟩ ⟨⟨rfl,rfl⟩,⟨rfl,rfl⟩,trivial⟩),?_⟩
 conv=>whnf
 refine⟨[1],_,wo [] s.name (by simp) (by omega),⟨rfl,rfl,rfl⟩,?_⟩
 conv=>whnf
 refine aA ?_
 conv=>whnf
 refine⟨_,ah.keep (sl:=[(1,.ptr 1 0),(4,.own 90050)]) (h:=[(1,.box ((bJ s).map .d)),(90050,mh _)]) ⟨⟨rfl,rfl⟩,⟨rfl,rfl⟩,trivial⟩ ⟨⟨rfl,rfl⟩,⟨rfl,rfl⟩,trivial⟩,?_⟩
 conv=>whnf
 refine⟨[1],_,oV (fw s.name) s.type (by omega),⟨rfl,rfl,rfl⟩,?_⟩
 conv=>whnf
 refine aA ?_
 conv=>whnf
 refine⟨_,ah.keep (sl:=[(1,.ptr 1 0),(4,.own 90050)]) (h:=[(1,.box ((bJ s).map .d)),(90050,mh _)]) ⟨⟨rfl,rfl⟩,⟨rfl,rfl⟩,trivial⟩ ⟨⟨rfl,rfl⟩,⟨rfl,rfl⟩,trivial⟩,?_⟩
 conv=>whnf
 refine⟨[1],_,oV (fw s.name++dL s.type) s.life (by omega),⟨rfl,rfl,rfl⟩,?_⟩
 conv=>whnf
 refine aA ?_
 conv=>whnf
 refine⟨_,ah.keep (sl:=[(1,.ptr 1 0),(4,.own 90050)]) (h:=[(1,.box ((bJ s).map .d)),(90050,mh (fw s.name++dL s.type++dL s.life))]) ⟨⟨rfl,rfl⟩,⟨rfl,rfl⟩,trivial⟩ ⟨⟨rfl,rfl⟩,⟨rfl,rfl⟩,trivial⟩,?_⟩
 conv=>whnf
 refine⟨by(show(List.map fJ _).length+1<=_;rw[ao];omega),by(show((List.map fJ _).length+1)*1<=_;rw[ao];omega),?_⟩
 conv=>whnf
 obtain⟨B,hB⟩:∃B,B=fw s.name++dL s.type++dL s.life++[IntKind.u8.wrap (s.data.length:Int)]:=⟨_,rfl⟩
 rw[<- hB]at lk;refine⟨Nat,λk=>⟨[(1,.ptr 1 0),(4,.own 90050),(30,.d (.slice 3 (s.data.map aI))),(31,.d (.int .i64 (s.data.map aI).length)),(32,.d (.int .i64 k))],[(1,.box ((bJ s).map .d)),(90050,mh (B++fu (s.data.take k)))]⟩,
  λk=>k<=s.data.length,λk=>s.data.length-k,⟨0,by omega,ah.keep ⟨ae,ae,ae,ae,ae,trivial⟩ ⟨ae,⟨?_,rfl⟩,trivial⟩⟩,?_⟩
 . show some (Blk.row _ _ (List.map fJ _++[[_]]))=some (Blk.row _ _ _)
   rw[hB,List.take_zero,fu,List.append_nil,ao,List.map_append (l₂:=[_])];rfl
 intro k hk
 conv=>whnf
 refine af (λh1=>?_) (λh1=>?_) <;> (rw[h1];conv=>whnf)
 . have hlt:k<s.data.length:=by simp at h1;omega
   obtain⟨d,hdk⟩:∃d,s.data[k]? =some d:=⟨_,aj hlt⟩
   have htx:=h2 d (ar hdk);have lk0:=lk k;refine⟨aw k,aI d,aD hdk,?_⟩
   conv=>whnf
   have tl:(fw d.text).length<=100001:=by rw[fw,List.length_cons,tF];omega
   have e1:(B++fu (s.data.take k)++fw d.text).length<=3000000000:=by rw[List.length_append];omega
   have e2:(B++fu (s.data.take k)++fw d.text++dL d.n).length<=3000000010:=by rw[List.length_append,qd];omega
   refine⟨[1,6],_,wo (B++fu (s.data.take k)) d.text (by omega) (by omega),⟨rfl,rfl,rfl⟩,?_⟩
   conv=>whnf
   refine aA ?_
   conv=>whnf
   refine⟨_,ah.keep (sl:=[(1,.ptr 1 0),(4,.own 90050),(6,.ptr 6 0),(30,.d (.slice 3 (s.data.map aI))),(31,.d (.int .i64 (s.data.map aI).length)),(32,.d (.int .i64 k))]) (h:=[(1,.box ((bJ s).map .d)),(6,.box ((aI d).map .d)),(90050,mh _)]) ⟨⟨rfl,rfl⟩,⟨rfl,rfl⟩,⟨rfl,rfl⟩,⟨rfl,rfl⟩,⟨rfl,rfl⟩,⟨rfl,rfl⟩,trivial⟩ ⟨⟨rfl,rfl⟩,⟨rfl,rfl⟩,⟨rfl,rfl⟩,trivial⟩,?_⟩
   conv=>whnf
   refine⟨[1,6],_,oV (B++fu (s.data.take k)++fw d.text) d.n (by omega),⟨rfl,rfl,rfl⟩,?_⟩
   conv=>whnf
   refine aA ?_
   conv=>whnf
   refine⟨_,ah.keep (sl:=[(1,.ptr 1 0),(4,.own 90050),(6,.ptr 6 0),(30,.d (.slice 3 (s.data.map aI))),(31,.d (.int .i64 (s.data.map aI).length)),(32,.d (.int .i64 k))]) (h:=[(1,.box ((bJ s).map .d)),(6,.box ((aI d).map .d)),(90050,mh _)]) ⟨⟨rfl,rfl⟩,⟨rfl,rfl⟩,⟨rfl,rfl⟩,⟨rfl,rfl⟩,⟨rfl,rfl⟩,⟨rfl,rfl⟩,trivial⟩ ⟨⟨rfl,rfl⟩,⟨rfl,rfl⟩,⟨rfl,rfl⟩,trivial⟩,?_⟩
   conv=>whnf
   refine⟨[1,6],_,oV (B++fu (s.data.take k)++fw d.text++dL d.n) d.m (by omega),⟨rfl,rfl,rfl⟩,?_⟩
   conv=>whnf
   refine aA ?_
   conv=>whnf
   refine⟨k+1,hlt,by(show s.data.length-(k+1)<s.data.length-k;omega),ah.keep ⟨ae,ae,ae,ae,⟨an (by omega),rfl⟩,trivial⟩ ⟨ae,⟨congrArg (λr=>some (mh r)) ?_,rfl⟩,trivial⟩⟩;rw[bU hdk,Be];simp[fu,IB]
 . obtain rfl:k=s.data.length:=by simp at h1;omega
   refine .inl ⟨[(2,.own 90050),(3,.d (.int .i64 0))],ah.keep ⟨ae,ae,trivial⟩ ⟨⟨congrArg (λr=>some (mh r)) ?_,rfl⟩,trivial⟩,rfl⟩;rw[List.take_length,hB];rfl
theorem KH(s:ck)(hv:dG s=false):FnP cxY pv0 96 [.agg ((bJ s).map .d)] [] (some (.tuple [.nil 1,.d (.int .i64 1)],[])):=by
 refine aT [] (fun|_=>[]) tyY yP Tryz.func96 (by kernel_rfl) rfl (ag rfl) (ag rfl) rfl ?_
 conv=>whnf
 (refine⟨_,_,lP s,?_⟩;conv=>whnf)
 rw[hv]
 conv=>whnf
 exact gW rfl rfl rfl
end Go.Proofs.YtodofogcincleaaGreatDoor
namespace NP
open NQ Go
structure dy where
 n:Int
 alg:Int
 deriving DecidableEq
def cQ(k:dy):List D:=[.int .i64 k.n,.int .i64 k.alg]
def nT(k:dy):Bool:=decide (k.n>=1)&&(decide (k.n<=1000000)&&(decide (k.alg>=1)&&decide (k.alg<=3)))
def rb(a b:Int):Bool:=decide (a>=0)&&(decide (a<=b)&&decide (b<=20000000))
def nh(a:Int):Bool:=decide (a>=0)&&decide (a<65536)
def ik(a:Int):Int×Int:=if nh a=true then((a+1).tmod 65536,0)else(0,1)
def lW(s:ck):List dy:=s.data.map λd=>⟨d.n,d.m⟩
def cE(s:ck):List dy×Int:=if dG s=true then(if s.type=7 then(lW s,0)else([],12))else([],1)
def HM:Sig:=⟨[],0,0,0,0,0⟩
def zq(s:ck)(zone:Bs)(k:dy)(a b:Int):Bool:=(nT k&&(rb a b&&(bc zone&& !jO zone)))&&(dG s&&(bl s.name zone).1)
def xM(s:ck)(zone:Bs)(k:dy)(a b:Int):Sig:=⟨zone,k.n,k.alg,a,b,Pc (setBytes s) zone k.n k.alg a b⟩
def qX(s:ck)(zone:Bs)(k:dy)(a b:Int):Sig×Int:=if zq s zone k a b=true then(xM s zone k a b,0)else(HM,1)
theorem zn{s:ck}(h:dG s=true):s.name.length<=60/\(∀d∈s.data,d.text.length<=60)/\s.data.length<=8:=by
 refine⟨fH (lv h),λd hd=>?_,ni h⟩;unfold dG at h;simp only[aH,ay]at h;obtain⟨i,hi,rfl⟩:=List.getElem_of_mem hd;have:=h.2 i (List.mem_range.2 hi);have h1:s.data[i-1]? =some s.data[i-1]:=aj (by omega);rw[Dr (aj hi) h1]at this;have hv:nn (sm s.type) s.data[i]=true:=by
  unfold um at this;simp only[Bool.not_eq_true',Bool.or_eq_false_iff,Bool.not_eq_false']at this;exact this.1
 unfold nn at hv;simp only[aH]at hv;have ht:=hv.2;unfold vm at ht;split at ht
 . simp only[aH]at ht;exact fH ht.1
 . split at ht
   . exact fH ht
   . split at ht
     . unfold cm at ht;simp only[aH,decide_eq_true_eq]at ht;have:=ht.1.1.1.2;omega
     . have:=eq_of_beq ht;rw[this];simp
theorem JS(s:ck)(h:dG s=true):(setBytes s).length<=10000:=by
 obtain⟨h1,h2,h3⟩:=zn h;have:∀(l:List Datum) (_:∀d∈l,d.text.length<=60),(fu l).length<=l.length*77:=by
  intro l;induction l with
  |nil=>intro _;simp[fu]
  |cons d t ih =>
   intro h;have h1:=ih λd hd=>h d (aZ _ hd)
   have h2:=h d (List.mem_cons_self ..);simp only[fu,List.length_append,Ds,List.length_cons];omega
 have h4:=this s.data h2;simp only[setBytes,List.length_append,fw,List.length_cons,tF,qd,List.length_nil];omega
end NP
namespace Go.Proofs.YtodofogcincleaaGreatDoor
open NQ Go NP Go.RowKit
theorem wY(k:dy):NQ.Fn cx 41 [.agg (cQ k)] (.d (.bool (nT k))) []:=by
 refine aM aV mixed Tryz.func41 (by kernel_rfl) rfl (ag rfl) ?_;conv=>whnf
 repeat' (first
  |(refine af (λh=>?_) (λh=>?_) <;> (rw[h];conv=>whnf))
  |(refine al rfl ?_;show AV.d (D.bool _)=_;simp only[nT, *, if_true,if_false,aK];done)
  |fail)
theorem wZ(a b:Int):NQ.Fn cx 39 [.int .i64 a,.int .i64 b] (.d (.bool (rb a b))) []:=by
 refine aM aV mixed Tryz.func39 (by kernel_rfl) rfl (ag rfl) ?_;conv=>whnf
 repeat' (first
  |(refine af (λh=>?_) (λh=>?_) <;> (rw[h];conv=>whnf))
  |(refine al rfl ?_;show AV.d (D.bool _)=_;simp only[rb, *, if_true,if_false,aK];done)
  |fail)
theorem AR(a:Int):NQ.Fn cx 225 [.int .i64 a] (.d (.bool (nh a))) []:=by
 refine aM aV mixed Tryz.func225 (by kernel_rfl) rfl (ag rfl) ?_;conv=>whnf
 repeat' (first
  |(refine af (λh=>?_) (λh=>?_) <;> (rw[h];conv=>whnf))
  |(refine al rfl ?_;show AV.d (D.bool _)=_;simp only[nh, *, if_true,if_false,aK];done)
  |fail)
theorem CL(a:Int):NQ.Fn cx 186 [.int .i64 a] (.tuple [.d (.int .i64 (ik a).1),.d (.int .i64 (ik a).2)]) []:=by
 refine aM aV mixed Tryz.func186 (by kernel_rfl) rfl (ag rfl) ?_;conv=>whnf
 (refine⟨_,_,AR a,?_⟩;conv=>whnf)
 cases h:nh a with
 |false =>
  conv=>whnf
  refine al rfl ?_;rw[ik,if_neg (by rw[h];simp)];rfl
 |true =>
  conv=>whnf
  refine al rfl ?_;rw[ik,if_pos h];have:IntKind.i64.wrap (a+1)=a+1:=wrap_i64 (by simp[nh]at h;omega) (by simp[nh]at h;omega);rw[this];rfl
theorem Lv(s:ck)(hl:s.data.length<=100000):NQ.Fn cx 38 [.agg (bJ s)] (.d (.slice 2 ((lW s).map cQ))) []:=by
 refine aM aV mixed Tryz.func38 (by kernel_rfl) rfl (ag rfl) ?_;conv=>whnf
 refine⟨by omega,.inl rfl,by omega,by(simp only[ao];omega),by(simp only[ao];omega),?_⟩
 conv=>whnf
 refine ⟨Nat, fun k => ⟨[(1, .ptr 1 0), (3, .own 9), (11, .d (.slice 3 (s.data.map aI))), (12, .d (.int .i64 ((s.data.map aI).length : Int))), (13, .d (.int .i64 k))],
     [(1,.box ((bJ s).map .d)),(9,.row 31 2 (((lW s).take k++List.replicate (s.data.length-k) (⟨0,0⟩:dy)).map cQ) true)]⟩,
  λk=>k<=s.data.length,λk=>s.data.length-k,⟨0,by omega,aF.keep ⟨ae,ae,ae,ae,ae,trivial⟩ ⟨ae,⟨by(show some (Blk.row _ _ (List.replicate ((s.data.map aI).length:Int).toNat _) true)=some (Blk.row _ _ _ true);simp[cQ];done),rfl⟩,trivial⟩⟩,λk hk=>?_⟩
 conv=>whnf
 refine af (λh1=>?_) (λh1=>?_) <;> (rw[h1];conv=>whnf)
 . have hlt:k<s.data.length:=by simp at h1;omega
   obtain⟨d,hdk⟩:∃d,s.data[k]? =some d:=⟨_,aj hlt⟩
   refine⟨aw k,aI d,aD hdk,?_⟩
   conv=>whnf
   have hkk:(lW s)[k]? =some ⟨d.n,d.m⟩:=by rw[lW,aN,hdk];rfl
   refine⟨aw k,by(simp[lW];omega),?_⟩
   conv=>whnf
   have hrk:(((lW s).take k++List.replicate (s.data.length-k) (⟨0,0⟩:dy)).map cQ)[k]? =some (cQ ⟨0,0⟩):=by
    rw[aN,bX (by simp[lW];omega),List.getElem?_replicate,if_pos (by simp[lW];omega)];rfl
   refine⟨_,hrk,?_⟩
   conv=>whnf
   refine⟨k+1,hlt,by(show s.data.length-(k+1)<s.data.length-k;omega),aF.keep ⟨ae,ae,ae,ae,⟨an (by omega),rfl⟩,trivial⟩ ⟨ae,⟨?_,rfl⟩,trivial⟩⟩;show some (Blk.row _ _ (List.set _ k (cQ ⟨d.n,d.m⟩)) true)=some (Blk.row _ _ _ true)
   rw[<- List.map_set,Hw hkk (by simp[lW])]
 . obtain rfl:k=s.data.length:=by simp at h1;omega
   refine al rfl ?_;rw[List.take_of_length_le (by simp[lW]),Nat.sub_self,List.replicate_zero,List.append_nil];rfl
theorem qq(s:ck):NQ.Fn cx 14 [.agg (bJ s)] (.tuple [.d (.slice 2 ((cE s).1.map cQ)),.d (.int .i64 (cE s).2)]) []:=by
 refine aM aV mixed Tryz.func14 (by kernel_rfl) rfl (ag rfl) ?_;conv=>whnf
 (refine⟨_,_,lP s,?_⟩;conv=>whnf)
 cases hv:dG s with
 |false =>
  conv=>whnf
  refine al rfl ?_;rw[cE,if_neg (by rw[hv];simp)];rfl
 |true =>
  conv=>whnf
  refine af (λh1=>?_) (λh1=>?_) <;> (rw[h1];conv=>whnf)
  . refine al rfl ?_;rw[cE,if_pos hv,if_neg (by simpa using h1)];rfl
  . (refine⟨_,_,Lv s (by have:=ni hv;omega),?_⟩;conv=>whnf)
    refine al rfl ?_;rw[cE,if_pos hv,if_pos (by simpa using h1)];rfl
noncomputable def Nt:Cx:={cx with chg:=fY [(96,9)]}
theorem Td:ba Nt:=aV
theorem QL:Nt.P.follows .mixedOrders=true:=mixed
theorem Ra(s:ck)(zone:Bs)(k:dy)(a b:Int):NQ.Fn cx 47 [.agg (bJ s),.str zone,.agg (cQ k),.int .i64 a,.int .i64 b] (.tuple [.agg ((lH (qX s zone k a b).1).map .d),.d (.int .i64 (qX s zone k a b).2)]) []:=by
 refine iB (pv:=pv0) (cx:=Nt) ?_;refine aT [] (fun|3=>[33333]|9=>[90050]|_=>[]) Td QL Tryz.func47 (by kernel_rfl) rfl (ag rfl) (ag rfl) rfl ?_;have bad:zq s zone k a b=false->qX s zone k a b=(HM,1):=λh=>by rw[qX,if_neg (by rw[h];simp)]
 have hs0:zq s zone k a b=((nT k&&(rb a b&&(bc zone&& !jO zone)))&&(dG s&&(bl s.name zone).1)):=rfl
 conv=>whnf
 (refine⟨_,_,wY k,?_⟩;conv=>whnf)
 obtain⟨q1,hq1⟩:∃q,nT k=q:=⟨_,rfl⟩
 rw[hq1]at hs0 ⊢;cases q1 with
 |false =>
  conv=>whnf
  exact gW rfl rfl (by rw[bad hs0];rfl)
 |true =>
 conv=>whnf
 (refine⟨_,_,wZ a b,?_⟩;conv=>whnf)
 obtain⟨q1,hq1⟩:∃q,rb a b=q:=⟨_,rfl⟩
 rw[hq1]at hs0 ⊢;cases q1 with
 |false =>
  conv=>whnf
  exact gW rfl rfl (by rw[bad hs0];rfl)
 |true =>
 conv=>whnf
 (refine⟨_,_,mg zone,?_⟩;conv=>whnf)
 obtain⟨q1,hvz⟩:∃q,bc zone=q:=⟨_,rfl⟩
 rw[hvz]at hs0 ⊢;cases q1 with
 |false =>
  conv=>whnf
  exact gW rfl rfl (by rw[bad hs0];rfl)
 |true =>
 conv=>whnf
 (refine⟨_,_,Hz zone,?_⟩;conv=>whnf)
 obtain⟨q1,hq1⟩:∃q,jO zone=q:=⟨_,rfl⟩
 rw[hq1]at hs0 ⊢;cases q1 with
 |true =>
  conv=>whnf
  exact gW rfl rfl (by rw[bad hs0];rfl)
 |false =>
 conv=>whnf
 obtain⟨q1,hq2⟩:∃q,dG s=q:=⟨_,rfl⟩
 cases q1 with
 |false =>
  refine⟨[5,7,10],_,KH s hq2,⟨rfl,rfl,rfl⟩,?_⟩
  conv=>whnf
  refine aA ?_
  conv=>whnf
  exact gW rfl rfl (by rw[bad (by rw[hs0,hq2];rfl)];rfl)
 |true =>
 obtain⟨t1,t2,t3⟩:=zn hq2;refine⟨[5,7,10],_,KI s hq2 (by omega) (λd hd=>by have:=t2 d hd;omega) (by omega),⟨rfl,rfl,rfl⟩,?_⟩
 conv=>whnf
 refine aA ?_
 conv=>whnf
 (refine⟨_,_,nu s.name zone,?_⟩;conv=>whnf)
 obtain⟨q1,hq3⟩:∃q,(bl s.name zone).1=q:=⟨_,rfl⟩
 rw[hq3]at ⊢;cases q1 with
 |false =>
  conv=>whnf
  exact gW rfl rfl (by rw[bad (by rw[hs0,hq2,hq3];rfl)];rfl)
 |true =>
 conv=>whnf
 have good:qX s zone k a b=(xM s zone k a b,0):=by rw[qX,if_pos (by rw[hs0,hq2,hq3];rfl)]
 have fS:=Sl (setBytes s) zone k.n k.alg a b (by have:=JS s hq2;omega) (by have:=fH hvz;omega)
 repeat' (first
  |(refine⟨(by kernel_rfl:bC _ _=true),?_⟩;conv=>whnf)
  |(refine⟨_,_,fS,?_⟩;conv=>whnf)
  |exact gW rfl rfl (by rw[good];rfl)
  |fail)
end Go.Proofs.YtodofogcincleaaGreatDoor
namespace NP
open NQ Go
def oK(apex:Bs)(s:Signed):Bool:=(s.set.type==2)&&(s.set.name != apex)
def lF(apex:Bs)(l:List Signed):List (Bs×D):=l.foldl (λm s=>if oK apex s=true then bS s.set.name (.bool true) m else m) []
def fD(apex:Bs)(l:List Signed)(n:Bs):Bool:=l.any λs=>oK apex s&&(s.set.name==n)
theorem Bc(apex:Bs)(l:List Signed)(s:Signed):lF apex (l++[s])=if oK apex s=true then bS s.set.name (.bool true) (lF apex l)else lF apex l:=by
 unfold lF;rw[List.foldl_append];rfl
theorem Rc{α:Type}{p:List α->Prop}(h0:p [])(h1:∀l x,p l->p (l++[x])):∀l,p l:=λl=>by
 have:∀n (l:List α),l.length=n->p l:=by
  intro n;induction n with
  |zero=>intro l hl;rw[List.eq_nil_of_length_eq_zero hl];exact h0
  |succ n ih =>
   intro l hl;have hne:l≠[]:=λe=>by rw[e]at hl;cases hl
   rw[<- List.dropLast_concat_getLast hne];exact h1 _ _ (ih _ (by rw[List.length_dropLast];omega))
 exact this _ l rfl
theorem KT(apex n:Bs)(l:List Signed):bf n (lF apex l)=if fD apex l n=true then some (.bool true)else none:=by
 induction l using Rc with
 |h0=>rfl
 |h1 l s ih =>
  rw[Bc];have e:fD apex (l++[s]) n=(fD apex l n||(oK apex s&&(s.set.name==n))):=by simp[fD]
  rw[e];by_cases h:oK apex s=true
  . rw[if_pos h,pr,ih,h];by_cases h2:s.set.name=n
    . rw[if_pos h2.symm];simp[h2]
    . rw[if_neg (λe=>h2 e.symm)];have:(s.set.name==n)=false:=by simpa using h2
      rw[this];simp
  . rw[if_neg h,ih];have h:oK apex s=false:=by simpa using h
    rw[h];simp
def fQ(isC:Bs->Bool)(cut:Bs)(s:Signed):Bs:=if isC s.set.name=true then s.set.name else if (!(cut==[]))=true then(if (bl s.set.name cut).1=true then cut else[])else cut
def uW(cut:Bs)(s:Signed):Bool:=(cut==[])||((s.set.type != 2)&&(s.set.type != 1))
def lY(isC:Bs->Bool):Bs->List Signed->List Bool
 |_,[]=>[]
 |cut,s::t=>uW (fQ isC cut s) s::lY isC (fQ isC cut s) t
def kS(z:aB):List Bool:=lY (fD z.apex z.sets) [] z.sets
theorem qS(isC:Bs->Bool):∀(cut:Bs) (l:List Signed),(lY isC cut l).length=l.length
 |_,[]=>rfl
 |cut,s::t=>by simp[lY,qS isC _ t]
theorem Hv{α:Type}(acc:List α)(x y:α){k n:Nat}(h:acc.length=k)(hn:k<n):(acc++List.replicate (n-k) x).set k y=(acc++[y])++List.replicate (n-(k+1)) x:=by
 rw[List.set_append_right _ _ (by omega),h,Nat.sub_self,show n-k=(n-(k+1))+1 by omega,List.replicate_succ,List.set_cons_zero,List.append_assoc];rfl
end NP
namespace Go.Proofs.YtodofogcincleaaGreatDoor
open NQ Go NP Go.RowKit
set_option maxHeartbeats 1000000 in
theorem Jt(z:aB)(hl:z.sets.length<=100000):NQ.Fn cx 45 [.agg (aG z)] (.d (.slice 1 ((kS z).map jr))) []:=by
 refine aM aV mixed Tryz.func45 (by kernel_rfl) rfl (ag rfl) ?_;conv=>whnf
 refine⟨Nat,λk=>⟨[(1,.ptr 1 0),(3,.omap 12),(14,.d (.slice 5 (z.sets.map ak))),(15,.d (.int .i64 ((z.sets.map ak).length:Int))),(16,.d (.int .i64 k))],[(1,.box ((aG z).map .d)),(12,.smap (lF z.apex (z.sets.take k)))]⟩,
  λk=>k<=z.sets.length,λk=>z.sets.length-k,⟨0,by omega,aF.keep ⟨ae,ae,ae,ae,ae,trivial⟩ ⟨ae,ae,trivial⟩⟩,λk hk=>?_⟩
 conv=>whnf
 refine af (λh1=>?_) (λh1=>?_) <;> (rw[h1];conv=>whnf)
 . have hlt:k<z.sets.length:=by simp at h1;omega
   obtain⟨s,hsk⟩:∃s,z.sets[k]? =some s:=⟨_,aj hlt⟩
   refine⟨aw k,ak s,aD hsk,?_⟩
   conv=>whnf
   have hm:lF z.apex (z.sets.take (k+1))=if oK z.apex s=true then bS s.set.name (.bool true) (lF z.apex (z.sets.take k))else lF z.apex (z.sets.take k):=by rw[bU hsk,Bc]
   have again:∀st,aF cx st ⟨[(1,.ptr 1 0),(3,.omap 12),(14,.d (.slice 5 (z.sets.map ak))),(15,.d (.int .i64 ((z.sets.map ak).length:Int))),(16,.d (.int .i64 ((k+1:Nat):Int)))],[(1,.box ((aG z).map .d)),(12,.smap (lF z.apex (z.sets.take (k+1))))]⟩ ->
    ∃y:Nat,y<=z.sets.length/\z.sets.length-y<z.sets.length-k/\aF cx st ⟨[(1,.ptr 1 0),(3,.omap 12),(14,.d (.slice 5 (z.sets.map ak))),(15,.d (.int .i64 ((z.sets.map ak).length:Int))),(16,.d (.int .i64 y))],[(1,.box ((aG z).map .d)),(12,.smap (lF z.apex (z.sets.take y)))]⟩:=λst hw=>⟨k+1,hlt,by omega,hw⟩
   rw[hm]at again
   (refine af (λh=>?_) (λh=>?_) <;> (rw[h];conv=>whnf))
   . have hty:=h
     (refine af (λh=>?_) (λh=>?_) <;> (rw[h];conv=>whnf))
     . rw[if_pos (by rw[oK,hty];exact h)]at again;exact again _ (aF.keep ⟨ae,ae,ae,ae,⟨an (by omega),rfl⟩,trivial⟩ ⟨ae,ae,trivial⟩)
     . rw[if_neg (by rw[oK,hty,gZ];show ¬(!(s.set.name==z.apex))=true;rw[h];simp)]at again;exact again _ (aF.keep ⟨ae,ae,ae,ae,⟨an (by omega),rfl⟩,trivial⟩ ⟨ae,ae,trivial⟩)
   . rw[if_neg (by rw[oK];show ¬((s.set.type==2)&&_)=true;rw[show(s.set.type==2)=false from h];simp)]at again;exact again _ (aF.keep ⟨ae,ae,ae,ae,⟨an (by omega),rfl⟩,trivial⟩ ⟨ae,ae,trivial⟩)
 . obtain rfl:k=z.sets.length:=by simp at h1;omega
   refine⟨by omega,.inl rfl,by omega,by(simp only[ao];omega),by(simp only[ao];omega),?_⟩
   conv=>whnf
   refine⟨(Nat×Bs)×List Bool,λx=>⟨[(3,.omap 12),(6,.own 40),(7,.d (.str x.1.2)),(42,.d (.slice 5 (z.sets.map ak))),(43,.d (.int .i64 ((z.sets.map ak).length:Int))),(44,.d (.int .i64 x.1.1))],[(1,.box ((aG z).map .d)),(12,.smap (lF z.apex z.sets)),(40,.row 4 1 ((x.2++List.replicate (z.sets.length-x.1.1) false).map jr) true)]⟩,
    λx=>x.1.1<=z.sets.length/\x.2.length=x.1.1/\x.2++lY (fD z.apex z.sets) x.1.2 (z.sets.drop x.1.1)=kS z,λx=>z.sets.length-x.1.1,
    ⟨((0,[]),[]),⟨Nat.zero_le _,rfl,rfl⟩,aF.keep ⟨ae,ae,ae,ae,ae,ae,trivial⟩ ⟨ae,⟨by(show some (Blk.smap (lF z.apex (z.sets.take z.sets.length)))=some (Blk.smap _);rw[List.take_length]),rfl⟩,⟨by(show some (Blk.row _ _ (List.replicate ((z.sets.map ak).length:Int).toNat _) true)=some (Blk.row _ _ _ true);simp[jr];done),rfl⟩,trivial⟩⟩,?_⟩
   rintro⟨⟨k,cut⟩,acc⟩ ⟨hk,ha,hc⟩;simp only at hk ha hc
   conv=>whnf
   refine af (λh1=>?_) (λh1=>?_) <;> (rw[h1];conv=>whnf)
   . have hlt:k<z.sets.length:=by simp at h1;omega
     obtain⟨s,hsk⟩:∃s,z.sets[k]? =some s:=⟨_,aj hlt⟩
     rw[drop_cons hsk,lY]at hc;refine⟨aw k,ak s,aD hsk,?_⟩
     conv=>whnf
     obtain⟨r,hr⟩:∃r,bf s.set.name (lF z.apex z.sets)=r:=⟨_,rfl⟩
     rw[hr];rw[KT]at hr;have again:∀c b,fQ (fD z.apex z.sets) cut s=c->uW c s=b-> ∀st,aF cx st ⟨[(3,.omap 12),(6,.own 40),(7,.d (.str c)),(42,.d (.slice 5 (z.sets.map ak))),(43,.d (.int .i64 ((z.sets.map ak).length:Int))),(44,.d (.int .i64 ((k+1:Nat):Int)))],[(1,.box ((aG z).map .d)),(12,.smap (lF z.apex z.sets)),(40,.row 4 1 ((acc++[b]++List.replicate (z.sets.length-(k+1)) false).map jr) true)]⟩ ->
      ∃y:(Nat×Bs)×List Bool,(y.1.1<=z.sets.length/\y.2.length=y.1.1/\y.2++lY (fD z.apex z.sets) y.1.2 (z.sets.drop y.1.1)=kS z)/\z.sets.length-y.1.1<z.sets.length-k/\aF cx st ⟨[(3,.omap 12),(6,.own 40),(7,.d (.str y.1.2)),(42,.d (.slice 5 (z.sets.map ak))),(43,.d (.int .i64 ((z.sets.map ak).length:Int))),(44,.d (.int .i64 y.1.1))],[(1,.box ((aG z).map .d)),(12,.smap (lF z.apex z.sets)),(40,.row 4 1 ((y.2++List.replicate (z.sets.length-y.1.1) false).map jr) true)]⟩:=by
      rintro c b rfl rfl st hw;exact⟨((k+1,_),acc++[_]),⟨hlt,by(simp;omega),by(rw[<- hc,List.append_assoc];rfl)⟩,by(show z.sets.length-(k+1)<z.sets.length-k;omega),hw⟩
     have hrk:((acc++List.replicate (z.sets.length-k) false).map jr)[k]? =some [D.bool false]:=by
      rw[aN,bX (by omega),List.getElem?_replicate,if_pos (by omega)];rfl
     have hrl:k<((acc++List.replicate (z.sets.length-k) false).map jr).length:=by simp;omega
     have hset:∀b,some (Blk.row 4 1 (((acc++List.replicate (z.sets.length-k) false).map jr).set k [D.bool b]) true)=some (Blk.row 4 1 ((acc++[b]++List.replicate (z.sets.length-(k+1)) false).map jr) true):=λb=>by
      rw[show[D.bool b]=jr b from rfl, <- List.map_set,Hv acc false b ha hlt]
     cases hcn:fD z.apex z.sets s.set.name with
     |true =>
      rw[if_pos hcn]at hr;subst hr;have hnx:fQ (fD z.apex z.sets) cut s=s.set.name:=by rw[fQ,if_pos hcn]
      have again:=again s.set.name
      conv=>whnf
      repeat' (first
       |(refine af (λh=>?_) (λh=>?_) <;> (rw[h];conv=>whnf))
       |(refine⟨aw k,hrl,?_⟩;conv=>whnf)
       |(refine⟨_,hrk,?_⟩;conv=>whnf)
       |exact again _ hnx (by(simp only[uW, *, if_true,if_false,aK];done)) _ (aF.keep ⟨ae,ae,ae,ae,ae,⟨an (k:=k) (by omega),rfl⟩,trivial⟩ ⟨ae,ae,⟨hset _,rfl⟩,trivial⟩)
       |fail)
     |false =>
      rw[if_neg (by rw[hcn];simp)]at hr;subst hr;have hno:¬fD z.apex z.sets s.set.name=true:=by rw[hcn];simp
      have n1:(!(cut==[]))=true->(bl s.set.name cut).1=true->fQ (fD z.apex z.sets) cut s=cut:=λh1 h2=>by rw[fQ,if_neg hno,if_pos h1,if_pos h2]
      have n2:(!(cut==[]))=true->(bl s.set.name cut).1=false->fQ (fD z.apex z.sets) cut s=[]:=λh1 h2=>by rw[fQ,if_neg hno,if_pos h1,if_neg (by rw[h2];simp)]
      have n3:(!(cut==[]))=false->fQ (fD z.apex z.sets) cut s=cut:=λh1=>by rw[fQ,if_neg hno,if_neg (by rw[h1];simp)]
      clear hno
      conv=>whnf
      repeat' (first
       |(refine af (λh=>?_) (λh=>?_) <;> (rw[h];conv=>whnf))
       |(refine⟨_,_,nu s.set.name cut,?_⟩;conv=>whnf)
       |(refine⟨aw k,hrl,?_⟩;conv=>whnf)
       |(refine⟨_,hrk,?_⟩;conv=>whnf)
       |exact again cut _ (n1 (by assumption) (by simpa using (by assumption:(!(bl s.set.name cut).1)=false))) (by simp only[uW, *, if_true,if_false,aK];done) _ (aF.keep ⟨ae,ae,ae,ae,ae,⟨an (k:=k) (by omega),rfl⟩,trivial⟩ ⟨ae,ae,⟨hset _,rfl⟩,trivial⟩)
       |exact again [] true (n2 (by assumption) (by simpa using (by assumption:(!(bl s.set.name cut).1)=true))) rfl _ (aF.keep ⟨ae,ae,ae,ae,ae,⟨an (k:=k) (by omega),rfl⟩,trivial⟩ ⟨ae,ae,⟨hset _,rfl⟩,trivial⟩)
       |exact again cut _ (n3 (by assumption)) (by simp only[uW, *, if_true,if_false,aK];done) _ (aF.keep ⟨ae,ae,ae,ae,ae,⟨an (k:=k) (by omega),rfl⟩,trivial⟩ ⟨ae,ae,⟨hset _,rfl⟩,trivial⟩)
       |fail)
   . obtain rfl:k=z.sets.length:=by simp at h1;omega
     rw[List.drop_length,lY,List.append_nil]at hc;refine al rfl ?_;rw[<- hc,Nat.sub_self,List.replicate_zero,List.append_nil];rfl
end Go.Proofs.YtodofogcincleaaGreatDoor
namespace NP
open NQ Go
def Ad(a b:dy):Int:=cR a.n b.n
def RN:List D->Int
 | .int _ n::_=>n
 |_=>0
def Px(x y:List D):Int:=cR (RN x) (RN y)
theorem GL(l:List dy):ky Ad l:=ky.key (λz=>z.n) λx _ y _=>by unfold Ad cR;split <;> (try split) <;> omega
theorem Mh(l:List dy):fT Px (l.map cQ)=(fT Ad l).map cQ:=BH cQ Ad Px l λx _ y _=>rfl
def ma(l:List dy):List dy:=fT Ad l
theorem zF(l:List dy):(ma l).Perm l:=pt (GL l)
def od(z:aB)(keys:List dy)(a b:Int):Bool:= !((decide ((keys.length:Int)<1)||decide ((keys.length:Int)>6))|| !rb a b|| !aR z)
def xq(l:List dy)(i:Nat):Bool:=match l[i-1]?, l[i]? with|some p,some k=>decide ((i:Int)>0)&&(p.n==k.n)|_,_=>false
def yA(l:List dy):Bool:=(List.range l.length).any (xq l)
def zr(apex:Bs)(keys:List dy)(a b:Int)(own:Bool)(s:Signed):Signed:=⟨s.set,if own=true then keys.map (λk=>xM s.set apex k a b)else[]⟩
def gK(apex:Bs)(keys:List dy)(a b:Int):List Bool->List Signed->List Signed
 |o::os,s::t=>zr apex keys a b o s::gK apex keys a b os t
 |_,_=>[]
def kC(z:aB)(keys:List dy)(a b:Int):aB:=⟨z.apex,gK z.apex keys a b (kS z) z.sets⟩
def ib(z:aB)(keys:List dy)(a b:Int):aB×Int :=
 if od z keys a b=false then(hU,1)
 else if keys.all nT=false then(hU,1)
 else if yA (ma keys)=true then(hU,5)
 else(kC z (ma keys) a b,0)
end NP
namespace Go.Proofs.YtodofogcincleaaGreatDoor
open NQ Go NP Go.RowKit
theorem PU(a b:dy):NQ.Fn cx 43 [.agg (cQ a),.agg (cQ b)] (.d (.int .i64 (Ad a b))) []:=by
 refine aM aV mixed Tryz.func43 (by kernel_rfl) rfl (ag rfl) ?_;conv=>whnf
 (refine⟨_,_,kI a.n b.n,?_⟩;conv=>whnf)
 exact al rfl rfl
theorem Mg(l:List dy)(hl:l.length<=100000)(fl:Bool):FnR cx 42 false 31 2 (l.map cQ) fl [.fn 43 [] []] ((ma l).map cQ):=by
 unfold ma;rw[<- Mh];exact EM (cx:=cx) (ρ:=Tryz.zC) Tryz.Sk (k:=2) Tryz.isAgg31 Tryz.sizeOf31 ⟨_,Tryz.func42,by kernel_rfl,rfl⟩
  (λx hx y hy=>by
   obtain⟨a,ha,rfl⟩:=List.mem_map.1 hx;obtain⟨b,hb,rfl⟩:=List.mem_map.1 hy;exact PU a b) (enters_of Tryz.func43 (by kernel_rfl) rfl) ((GL l).map λx _ y _=>rfl) (by rw[ao];omega)
noncomputable def Dp:Cx:={cx with chg:=fY [(42,2)]}
theorem SS:ba Dp:=aV
theorem QC:Dp.P.follows .mixedOrders=true:=mixed
set_option maxHeartbeats 2000000 in
theorem CO(z:aB)(keys:List dy)(a b:Int)(hl:keys.length<=100000):NQ.Fn Dp 15 [.agg (aG z),.slice 2 (keys.map cQ),.int .i64 a,.int .i64 b] (.tuple [.agg ((aG (ib z keys a b).1).map .d),.d (.int .i64 (ib z keys a b).2)]) []:=by
 refine fC (fun|10=>[88888]|34=>[300]|_=>[]) SS QC Tryz.func15 (by kernel_rfl) rfl (ag rfl) ?_;have bad:od z keys a b=false->ib z keys a b=(hU,1):=λh=>by rw[ib,if_pos h]
 have ha0:od z keys a b= !((decide ((keys.length:Int)<1)||decide ((keys.length:Int)>6))|| !rb a b|| !aR z):=rfl
 conv=>whnf
 refine af (λh1=>?_) (λh1=>?_) <;> (rw[h1];conv=>whnf)
 . exact al rfl (by rw[bad (by rw[ha0];simp only[ao]at h1;simp only[h1,if_true,if_false,aK])];rfl)
 refine af (λh2=>?_) (λh2=>?_) <;> (rw[h2];conv=>whnf)
 . exact al rfl (by rw[bad (by rw[ha0];simp only[ao]at h2;simp only[h2,if_true,if_false,aK])];rfl)
 simp only[ao]at h1 h2;rw[h1,h2]at ha0
 (refine⟨_,_,wZ a b,?_⟩;conv=>whnf)
 obtain⟨q1,hq1⟩:∃q,rb a b=q:=⟨_,rfl⟩
 rw[hq1]at ha0 ⊢;cases q1 with
 |false =>
  conv=>whnf
  exact al rfl (by rw[bad (by rw[ha0];simp only[if_true,if_false,aK])];rfl)
 |true =>
 conv=>whnf
 (refine⟨_,_,iM z,?_⟩;conv=>whnf)
 obtain⟨q1,hv⟩:∃q,aR z=q:=⟨_,rfl⟩
 rw[hv]at ha0 ⊢;cases q1 with
 |false =>
  conv=>whnf
  exact al rfl (by rw[bad (by rw[ha0];simp only[if_true,if_false,aK])];rfl)
 |true =>
 conv=>whnf
 have hlen:1<=keys.length/\keys.length<=6:=by simp at h1 h2;omega
 clear bad h1 h2;have good:od z keys a b=true:=by rw[ha0];rfl
 refine⟨Nat,λk=>⟨[(1,.d (.slice 2 (keys.map cQ))),(2,.d (.int .i64 a)),(3,.d (.int .i64 b)),(4,.ptr 4 0),(8,.ptr 8 0),(44,.d (.slice 2 (keys.map cQ))),(45,.d (.int .i64 ((keys.map cQ).length:Int))),(46,.d (.int .i64 k))],[(4,.box ((aG z).map .d)),(8,.box [.d (.str []),.nil 5])]⟩,
  λk=>k<=keys.length/\(keys.take k).all nT=true,λk=>keys.length-k,⟨0,⟨by omega,rfl⟩,aF.keep ⟨ae,ae,ae,ae,ae,ae,ae,ae,trivial⟩ ⟨ae,ae,trivial⟩⟩,?_⟩
 rintro k ⟨hk,hall⟩
 conv=>whnf
 refine af (λh1=>?_) (λh1=>?_) <;> (rw[h1];conv=>whnf)
 . have hlt:k<keys.length:=by simp at h1;omega
   obtain⟨q,hqk⟩:∃q,keys[k]? =some q:=⟨_,aj hlt⟩
   refine⟨aw k,cQ q,aD hqk,?_⟩
   conv=>whnf
   (refine⟨_,_,wY q,?_⟩;conv=>whnf)
   obtain⟨q1,hq1⟩:∃x,nT q=x:=⟨_,rfl⟩
   rw[hq1];cases q1 with
   |false =>
    conv=>whnf
    have hno:keys.all nT=false:=by
     rw[List.all_eq_false];exact⟨q,ar hqk,by rw[hq1];simp⟩
    exact al rfl (by rw[ib,if_neg (by rw[good];simp),if_pos hno];rfl)
   |true =>
    conv=>whnf
    exact⟨k+1,⟨hlt,by rw[bU hqk,List.all_append,hall];simp[hq1]⟩,by(show keys.length-(k+1)<keys.length-k;omega),aF.keep ⟨ae,ae,ae,ae,ae,ae,ae,⟨an (by omega),rfl⟩,trivial⟩ ⟨ae,ae,trivial⟩⟩
 obtain rfl:k=keys.length:=by simp at h1;omega
 rw[List.take_length]at hall;refine⟨by omega,.inl rfl,by omega,by(simp only[ao];omega),by(simp only[ao];omega),?_⟩
 conv=>whnf
 refine⟨by simp,?_⟩
 conv=>whnf
 refine⟨_,Mg keys (by omega) _,?_⟩
 conv=>whnf
 have hsl:(ma keys).length=keys.length:=(zF keys).length_eq;have hcont:ib z keys a b=if yA (ma keys)=true then(hU,5)else(kC z (ma keys) a b,0):=by rw[ib,if_neg (by rw[good];simp),if_neg (by rw[hall];simp)]
 have hokS:∀k∈ma keys,nT k=true:=λk hk=>ay.1 hall k ((zF keys).mem_iff.1 hk)
 generalize ma keys=K at hsl hcont hokS ⊢
 refine⟨Nat,λk=>⟨[(2,.d (.int .i64 a)),(3,.d (.int .i64 b)),(4,.ptr 4 0),(8,.ptr 8 0),(12,.own 57),(63,.own 57),(64,.d (.int .i64 ((K.map cQ).length:Int))),(65,.d (.int .i64 k))],[(4,.box ((aG z).map .d)),(8,.box [.d (.str []),.nil 5]),(57,.row 31 2 (K.map cQ))]⟩,
  λk=>k<=K.length/\(List.range k).any (xq K)=false,λk=>K.length-k,⟨0,⟨by omega,rfl⟩,aF.keep ⟨ae,ae,ae,ae,ae,ae,ae,ae,trivial⟩ ⟨ae,ae,ae,trivial⟩⟩,?_⟩
 rintro k ⟨hk,hnd⟩
 conv=>whnf
 refine af (λh1=>?_) (λh1=>?_) <;> (rw[h1];conv=>whnf)
 . have hlt:k<K.length:=by simp at h1;omega
   obtain⟨q,hqk⟩:∃q,K[k]? =some q:=⟨_,aj hlt⟩
   refine⟨aw k,by(show k<_;rw[ao];exact hlt),?_⟩
   conv=>whnf
   refine⟨cQ q,aD hqk,?_⟩
   conv=>whnf
   have found:xq K k=true->ib z keys a b=(hU,5):=λh=>by
    rw[hcont,if_pos (show yA K=true from List.any_eq_true.2 ⟨k,List.mem_range.2 hlt,h⟩)]
   have again:xq K k=false->(List.range (k+1)).any (xq K)=false:=λh=>by rw[List.range_succ,List.any_append,hnd];simp[h]
   obtain⟨p,hpk⟩:∃p,K[k-1]? =some p:=⟨_,aj (by omega)⟩
   have hdk:xq K k=(decide ((k:Int)>0)&&(p.n==q.n)):=by rw[xq,hpk,hqk]
   rw[hdk]at found again
   repeat' (first
    |(refine⟨(by kernel_rfl:bC _ _=true),?_⟩;conv=>whnf)
    |(refine af (λh=>?_) (λh=>?_) <;> (rw[h];conv=>whnf))
    |(refine⟨(ml (by assumption) (by omega)).1,by(show(IntKind.i64.wrap ((k:Int)-1)).toNat<_;rw[(ml (by assumption) (by omega)).2,ao];omega),?_⟩;conv=>whnf)
    |(refine⟨cQ p,kO (by assumption) (by omega) hpk,?_⟩;conv=>whnf)
    |exact al rfl (by rw[found (by simp only[*, if_true,if_false,aK];done)];rfl)
    |exact⟨k+1,⟨hlt,again (by simp only[*, if_true,if_false,aK];done)⟩,by(show K.length-(k+1)<K.length-k;omega),aF.keep ⟨ae,ae,ae,ae,ae,ae,ae,⟨an (by omega),rfl⟩,trivial⟩ ⟨ae,ae,ae,trivial⟩⟩
    |fail)
 obtain rfl:k=K.length:=by simp at h1;omega
 have ho:=bT hv;rw[hcont,if_neg (by rw[yA,hnd];simp)];clear hcont hnd ha0 good hall
 (refine⟨_,_,Jt z (by have:=ho.few;omega),?_⟩;conv=>whnf)
 (refine⟨(by kernel_rfl:bC _ _=true),?_⟩;conv=>whnf)
 have hfew:=ho.few;refine⟨by omega,.inl rfl,by omega,by(simp only[ao];omega),by(simp only[ao];omega),?_⟩
 conv=>whnf
 have howl:(kS z).length=z.sets.length:=qS _ _ _;have hsm:=ko hv;refine⟨Nat×List Signed,λx=>⟨[(2,.d (.int .i64 a)),(3,.d (.int .i64 b)),(4,.ptr 4 0),(8,.ptr 8 0),(12,.own 57),(15,.d (.slice 1 ((kS z).map jr))),(16,.ptr 16 0),(95,.d (.slice 5 (z.sets.map ak))),(96,.d (.int .i64 ((z.sets.map ak).length:Int))),(97,.d (.int .i64 x.1))],[(4,.box ((aG z).map .d)),(8,.box [.d (.str []),.nil 5]),(16,.box [.d (.str z.apex),.own 92]),(57,.row 31 2 (K.map cQ)),(92,.row 68 5 ((x.2++List.replicate (z.sets.length-x.1) iL).map ak) true)]⟩,
  λx=>x.1<=z.sets.length/\x.2.length=x.1/\x.2++gK z.apex K a b ((kS z).drop x.1) (z.sets.drop x.1)=(kC z K a b).sets,λx=>z.sets.length-x.1,
  ⟨(0,[]),⟨Nat.zero_le _,rfl,rfl⟩,aF.keep ⟨ae,ae,ae,ae,ae,ae,ae,ae,ae,ae,trivial⟩ ⟨ae,ae,ae,ae,⟨by(show some (Blk.row _ _ (List.replicate ((z.sets.map ak).length:Int).toNat _) true)=some (Blk.row _ _ _ true);simp[ak,iL];done),rfl⟩,trivial⟩⟩,?_⟩
 rintro⟨k,acc⟩ ⟨hk,hac,hc⟩;simp only at hk hac hc
 conv=>whnf
 refine af (λh1=>?_) (λh1=>?_) <;> (rw[h1];conv=>whnf)
 . have hlt:k<z.sets.length:=by simp at h1;omega
   obtain⟨s,hsk⟩:∃s,z.sets[k]? =some s:=⟨_,aj hlt⟩
   obtain⟨o,hok⟩:∃o,(kS z)[k]? =some o:=⟨_,aj (by omega)⟩
   rw[drop_cons hsk,drop_cons hok,gK]at hc;have hss:=(hsm s (ar hsk)).1;refine⟨aw k,ak s,aD hsk,?_⟩
   conv=>whnf
   (refine⟨_,_,mS _ (by rw[ao];omega),?_⟩;conv=>whnf)
   refine⟨aw k,jr o,aD hok,?_⟩
   conv=>whnf
   have hrk:((acc++List.replicate (z.sets.length-k) iL).map ak)[k]? =some (ak iL):=by
    rw[aN,bX (by omega),List.getElem?_replicate,if_pos (by omega)];rfl
   have hrl:k<((acc++List.replicate (z.sets.length-k) iL).map ak).length:=by simp;omega
   have hset:∀t:Signed,some (Blk.row 68 5 (((acc++List.replicate (z.sets.length-k) iL).map ak).set k (ak t)) true)=some (Blk.row 68 5 ((acc++[t]++List.replicate (z.sets.length-(k+1)) iL).map ak) true):=λt=>by
    rw[<- List.map_set,Hv acc iL t hac hlt]
   have again:∀t,zr z.apex K a b o s=t-> ∀st,aF Dp st ⟨[(2,.d (.int .i64 a)),(3,.d (.int .i64 b)),(4,.ptr 4 0),(8,.ptr 8 0),(12,.own 57),(15,.d (.slice 1 ((kS z).map jr))),(16,.ptr 16 0),(95,.d (.slice 5 (z.sets.map ak))),(96,.d (.int .i64 ((z.sets.map ak).length:Int))),(97,.d (.int .i64 ((k+1:Nat):Int)))],[(4,.box ((aG z).map .d)),(8,.box [.d (.str []),.nil 5]),(16,.box [.d (.str z.apex),.own 92]),(57,.row 31 2 (K.map cQ)),(92,.row 68 5 ((acc++[t]++List.replicate (z.sets.length-(k+1)) iL).map ak) true)]⟩ ->
    ∃y:Nat×List Signed,(y.1<=z.sets.length/\y.2.length=y.1/\y.2++gK z.apex K a b ((kS z).drop y.1) (z.sets.drop y.1)=(kC z K a b).sets)/\z.sets.length-y.1<z.sets.length-k/\aF Dp st ⟨[(2,.d (.int .i64 a)),(3,.d (.int .i64 b)),(4,.ptr 4 0),(8,.ptr 8 0),(12,.own 57),(15,.d (.slice 1 ((kS z).map jr))),(16,.ptr 16 0),(95,.d (.slice 5 (z.sets.map ak))),(96,.d (.int .i64 ((z.sets.map ak).length:Int))),(97,.d (.int .i64 y.1))],[(4,.box ((aG z).map .d)),(8,.box [.d (.str []),.nil 5]),(16,.box [.d (.str z.apex),.own 92]),(57,.row 31 2 (K.map cQ)),(92,.row 68 5 ((y.2++List.replicate (z.sets.length-y.1) iL).map ak) true)]⟩:=by
    rintro t rfl st hw;exact⟨(k+1,acc++[_]),⟨hlt,by(simp;omega),by(rw[<- hc,List.append_assoc];rfl)⟩,by(show z.sets.length-(k+1)<z.sets.length-k;omega),hw⟩
   cases o with
   |false =>
    conv=>whnf
    refine⟨aw k,hrl,?_⟩
    conv=>whnf
    refine⟨_,hrk,?_⟩
    conv=>whnf
    exact again ⟨s.set,[]⟩ rfl _ (aF.keep ⟨ae,ae,ae,ae,ae,ae,ae,ae,ae,⟨an (k:=k) (by omega),rfl⟩,trivial⟩ ⟨ae,ae,ae,ae,⟨hset ⟨s.set,[]⟩,rfl⟩,trivial⟩)
   |true =>
    conv=>whnf
    refine⟨Nat,λj=>⟨[(2,.d (.int .i64 a)),(3,.d (.int .i64 b)),(4,.ptr 4 0),(8,.ptr 8 0),(12,.own 57),(15,.d (.slice 1 ((kS z).map jr))),(16,.ptr 16 0),(17,.d (.int .i64 k)),(19,.ptr 19 0),(95,.d (.slice 5 (z.sets.map ak))),(96,.d (.int .i64 ((z.sets.map ak).length:Int))),(97,.d (.int .i64 k)),(115,.own 57),(116,.d (.int .i64 ((K.map cQ).length:Int))),(117,.d (.int .i64 j))],[(4,.box ((aG z).map .d)),(8,.box [.d (.str []),.nil 5]),(16,.box [.d (.str z.apex),.own 92]),(19,.box [.d (.str s.set.name),.d (.int .i64 s.set.type),.d (.int .i64 s.set.life),.d (.slice 3 (s.set.data.map aI)),.own 300]),(57,.row 31 2 (K.map cQ)),(92,.row 68 5 ((acc++List.replicate (z.sets.length-k) iL).map ak) true),(300,.row 109 6 (((K.take j).map λq=>xM s.set z.apex q a b).map lH))]⟩,
     λj=>j<=K.length,λj=>K.length-j,
     ⟨0,Nat.zero_le _,(aF.iH 19 4 300 6 [.d (.str s.set.name),.d (.int .i64 s.set.type),.d (.int .i64 s.set.life),.d (.slice 3 (s.set.data.map aI)),.nil 6] 109 6 rfl rfl rfl (by decide)).trans (aF.keep ⟨ae,ae,ae,ae,ae,ae,ae,ae,ae,ae,ae,ae,ae,ae,ae,trivial⟩ ⟨ae,ae,ae,ae,ae,ae,ae,trivial⟩)⟩,?_⟩
    intro j hj
    conv=>whnf
    refine af (λh2=>?_) (λh2=>?_) <;> (rw[h2];conv=>whnf)
    . have hlt2:j<K.length:=by simp at h2;omega
      obtain⟨q,hqj⟩:∃q,K[j]? =some q:=⟨_,aj hlt2⟩
      refine⟨aw j,by(show j<_;rw[ao];exact hlt2),?_⟩
      conv=>whnf
      refine⟨cQ q,aD hqj,?_⟩
      conv=>whnf
      have hsign:qX s.set z.apex q a b=(xM s.set z.apex q a b,0):=by
       rw[qX,if_pos];rw[zq,hokS q (ar hqj),hq1,ho.apex,ho.tame,ho.set s (ar hsk),ho.under s (ar hsk)];rfl
      have fS:=Ra s.set z.apex q a b;rw[hsign]at fS
      (refine⟨_,_,fS,?_⟩;conv=>whnf)
      refine⟨by(show(List.map lH _).length+1<=_;rw[ao,ao,List.length_take];omega),by(show((List.map lH _).length+1)*56<=_;rw[ao,ao,List.length_take];omega),?_⟩
      conv=>whnf
      exact⟨j+1,hlt2,by(show K.length-(j+1)<K.length-j;omega),aF.keep ⟨ae,ae,ae,ae,ae,ae,ae,ae,ae,ae,ae,ae,ae,ae,⟨an (by omega),rfl⟩,trivial⟩ ⟨ae,ae,ae,ae,ae,ae,⟨by(show some (Blk.row _ _ (_++_))=some (Blk.row _ _ _);rw[bU hqj,List.map_append,List.map_append];rfl),rfl⟩,trivial⟩⟩
    . obtain rfl:j=K.length:=by simp at h2;omega
      refine⟨aw k,hrl,?_⟩
      conv=>whnf
      refine⟨_,hrk,?_⟩
      conv=>whnf
      have e:zr z.apex K a b true s=⟨s.set,(K.take K.length).map λq=>xM s.set z.apex q a b⟩:=by rw[zr,if_pos rfl,List.take_length]
      exact again _ e _ (aF.keep ⟨ae,ae,ae,ae,ae,ae,ae,ae,ae,⟨an (k:=k) (by omega),rfl⟩,trivial⟩ ⟨ae,ae,ae,ae,⟨hset ⟨s.set,(K.take K.length).map λq=>xM s.set z.apex q a b⟩,rfl⟩,trivial⟩)
 . obtain rfl:k=z.sets.length:=by simp at h1;omega
   rw[List.drop_length,List.drop_of_length_le (by omega),show gK z.apex K a b [] []=[]from rfl,List.append_nil]at hc;refine al rfl ?_;rw[Nat.sub_self,List.replicate_zero,List.append_nil,hc];rfl
end Go.Proofs.YtodofogcincleaaGreatDoor
namespace NP
open NQ Go
def oE:ck:=⟨[],0,0,[]⟩
def isF(s:Bs)(kind:Int)(x:Signed):Bool:=(x.set.name==s)&&(x.set.type==kind)
def kB(z:aB)(s:Bs)(kind:Int):Option Signed:=z.sets.find? (isF s kind)
def wfR(z:aB)(s:Bs)(kind:Int):ck×Bool:=match kB z s kind with|some x=>(x.set,true)|none=>(oE,false)
theorem kL{α:Type}(p:α->Bool):∀l:List α,(match l.findIdx? p with|some k=>l[k]? |none=>none)=l.find? p
 |[]=>rfl
 |x::t=>by
  rw[List.findIdx?_cons,List.find?_cons];cases h:p x with
  |true=>rfl
  |false =>
   have ih:=kL p t;cases hi:t.findIdx? p with
   |none=>rw[hi]at ih;simpa using ih
   |some k=>rw[hi]at ih;simpa using ih
def bG(z:aB):Int:=match kB z z.apex 4 with|some x=>(match x.set.data with|d::_=>d.n|[]=>0)|none=>0
def ud(b p:ai):Int:=if cR (bG b.zone) (bG p.zone)=0 then cR p.host b.host else cR (bG b.zone) (bG p.zone)
def lh(apex:Bs)(b:Option (Nat×ai))(i:Nat)(p:ai):Option (Nat×ai):=if (p.zone.apex != apex)=true then b else match b with|none=>some (i,p)|some (j,q)=>if ud q p<0 then some (i,p)else some (j,q)
def kA(apex:Bs):Option (Nat×ai)->Nat->List ai->Option (Nat×ai)
 |b,_,[]=>b
 |b,i,p::t=>kA apex (lh apex b i p) (i+1) t
def sH(zs:List ai)(apex:Bs):Option (Nat×ai):=kA apex none 0 zs
def bz(zs:List ai)(apex:Bs):aB×Bool:=match sH zs apex with|some (_,p)=>(p.zone,true)|none=>(hU,false)
end NP
namespace Go.Proofs.YtodofogcincleaaGreatDoor
open NQ Go NP Go.RowKit
theorem vu(x:Signed)(s:Bs)(kind:Int):NQ.Fn cx 178 [.agg (ak x),.ptr [.str s],.ptr [.int .i64 kind]] (.d (.bool (isF s kind x))) []:=by
 refine aM aV mixed Tryz.func178 (by kernel_rfl) rfl (ag rfl) ?_;conv=>whnf
 repeat' (first
  |(refine af (λh=>?_) (λh=>?_) <;> (rw[h];conv=>whnf))
  |(refine al rfl ?_;show AV.d (D.bool _)=_;simp only[isF, *, if_true,if_false,aK];done)
  |fail)
theorem xz(l:List Signed)(p:Signed->Bool)(x y:D)(hn:l.length<=100000)(hf:∀s∈l,NQ.Fn cx 178 [.agg (ak s),x,y] (.d (.bool (p s))) []) :
 NQ.Fn cx 177 [.slice 5 (l.map ak),.fn 178 [] [x,y]] (.d (.int .i64 (match l.findIdx? p with|some k=>(k:Int)|none=> -1))) []:=by
 refine aM aV mixed Tryz.func177 (by kernel_rfl) rfl (ag rfl) ?_;conv=>whnf
 refine⟨Nat,λk=>⟨[(0,.d (.slice 5 (l.map ak))),(1,.d (.fn 178 [] [x,y])),(7,.d (.int .i64 ((l.map ak).length:Int))),(8,.d (.int .i64 k))],[]⟩,λk=>k<=l.length/\ ∀j y,j<k->l[j]? =some y->p y=false,λk=>l.length-k,
  ⟨0,⟨by omega,λj y h=>by omega⟩,aF.keep ⟨ae,ae,ae,ae,trivial⟩ trivial⟩,λk hk=>?_⟩
 obtain⟨hk,hall⟩:=hk
 conv=>whnf
 refine af (λh1=>?_) (λh1=>?_) <;> (rw[h1];conv=>whnf)
 . have hlt:k<l.length:=by simp at h1;omega
   obtain⟨s,hs⟩:∃s,l[k]? =some s:=⟨_,aj hlt⟩
   refine⟨aw k,ak s,aD hs,?_⟩
   conv=>whnf
   (refine⟨_,_,hf s (ar hs),?_⟩;conv=>whnf)
   refine af (λh2=>?_) (λh2=>?_) <;> (rw[h2];conv=>whnf)
   . refine al rfl ?_;have:l.findIdx? p=some k:=by
      rw[List.findIdx?_eq_some_iff_getElem];obtain⟨g1,g2⟩:=aq.1 hs;refine⟨g1,by rw[g2];exact h2,λj hj=>?_⟩;have:=hall j (l[j]) hj (aj (by omega));rw[this];decide
     rw[this];rfl
   . refine⟨k+1,⟨hlt,λj y hj hy=>?_⟩,by(show l.length-(k+1)<l.length-k;omega),aF.keep ⟨ae,ae,ae,⟨an (by omega),rfl⟩,trivial⟩ trivial⟩;rcases Nat.lt_succ_iff_lt_or_eq.1 hj with hj|rfl
     . exact hall j y hj hy
     . rw[hs]at hy;cases hy;exact h2
 . obtain rfl:k=l.length:=by simp at h1;omega
   refine al rfl ?_;have:l.findIdx? p=none:=by
    rw[List.findIdx?_eq_none_iff];intro x hx;obtain⟨i,hi⟩:=cd hx;exact hall i x (aq.1 hi).1 hi
   rw[this];rfl
theorem mA(z:aB)(s:Bs)(kind:Int)(hn:z.sets.length<=100000):NQ.Fn cx 110 [.agg (aG z),.str s,.int .i64 kind] (.tuple [.agg ((bJ (wfR z s kind).1).map .d),.d (.bool (wfR z s kind).2)]) []:=by
 refine aM aV mixed Tryz.func110 (by kernel_rfl) rfl (ag rfl) ?_;conv=>whnf
 (refine⟨_,xz z.sets (isF s kind) _ _ hn (λx _=>vu x s kind),rfl,?_⟩;conv=>whnf)
 have hfi:=kL (isF s kind) z.sets;have hfr:wfR z s kind=match z.sets.find? (isF s kind)with|some x=>(x.set,true)|none=>(oE,false):=rfl
 cases hi:z.sets.findIdx? (isF s kind)with
 |none =>
  rw[hi]at hfi;rw[<- hfi]at hfr
  conv=>whnf
  exact al rfl (by rw[hfr];rfl)
 |some k =>
  rw[hi]at hfi;obtain⟨hlt,_⟩:=List.findIdx?_eq_some_iff_getElem.1 hi;obtain⟨x,hx⟩:∃x,z.sets[k]? =some x:=⟨_,aj hlt⟩
  rw[<- hfi]at hfr;simp only[hx]at hfr
  conv=>whnf
  refine⟨aw k,ak x,aD hx,?_⟩
  conv=>whnf
  exact al rfl (by rw[hfr];rfl)
theorem zm(z:aB)(hn:z.sets.length<=100000)(hs:∀s∈z.sets,dG s.set=true):NQ.Fn cx 109 [.agg (aG z)] (.d (.int .i64 (bG z))) []:=by
 refine aM aV mixed Tryz.func109 (by kernel_rfl) rfl (ag rfl) ?_;conv=>whnf
 (refine⟨_,_,mA z z.apex 4 hn,?_⟩;conv=>whnf)
 cases hf:kB z z.apex 4 with
 |none =>
  have e:wfR z z.apex 4=(oE,false):=by rw[wfR,hf]
  rw[e]
  conv=>whnf
  exact al rfl (by rw[bG,hf];rfl)
 |some x =>
  have e:wfR z z.apex 4=(x.set,true):=by rw[wfR,hf]
  rw[e]
  conv=>whnf
  have hx:=List.mem_of_find?_eq_some hf;obtain⟨d0,hd⟩:=vd (hs x hx);obtain⟨d,t,hdt⟩:∃d t,x.set.data=d::t:=by
   cases hdd:x.set.data with
   |nil=>rw[hdd]at hd;simp at hd
   |cons d t=>exact⟨d,t,rfl⟩
  refine⟨by decide,aI d,by rw[hdt];rfl,?_⟩
  conv=>whnf
  have e:bG z=d.n:=by simp only[bG,hf,hdt]
  exact al rfl (by rw[e];rfl)
abbrev rN(l:List Signed):Blk:= .row 68 5 (l.map ak)
noncomputable def cxW:Cx:={cx with chg:=fY []}
theorem tyW:ba cxW:=aV
theorem sf:cxW.P.follows .mixedOrders=true:=mixed
end Go.Proofs.YtodofogcincleaaGreatDoor
namespace NP
open NQ Go
structure aX where
 w:aL
 since:Int
 till:Int
 zone:aB
 life:Int
 got:List (Bs×List Int)
 puts:List ai
 stages:List (List ai)
def bV(l:List ai):List D:=[.slice 3 (l.map aC)]
def gn(g:List (Bs×List Int)):List (Bs×D):=g.map λp=>(p.1,.slice 1 (p.2.map cK))
end NP
namespace Go.Proofs.YtodofogcincleaaGreatDoor
open NQ Go NP Go.RowKit
def Ox(v:Bool)(o:aX):List AV:=match v with
 |true=>(bn o.w).map .d++[.d (.int .i64 o.since),.d (.int .i64 o.till),.d (.str o.zone.apex),.d (.slice 5 (o.zone.sets.map ak)),.d (.int .i64 o.life),.omap 90032,.own 90040,.own 90041]
 |false=>(bn o.w).map .d++[.d (.int .i64 0),.d (.int .i64 0),.d (.str []),.nil 5,.d (.int .i64 0),.d .nmap,.nil 3,.nil 1]
def fE(w:aL):List AV:=(bn w).map .d++[.undef,.undef,.undef,.undef,.undef,.undef,.undef,.undef]
theorem Hp(a b:Int):kR [a,b]=if a=0 then b else a:=by
 unfold kR;by_cases h:a=0
 . subst h;by_cases h' :b=0
   . subst h';rfl
   . rw[List.find?_cons_of_neg (by simp),List.find?_cons_of_pos (by simpa using h')];rfl
 . rw[List.find?_cons_of_pos (by simpa using h),if_neg h];rfl
theorem iz(w:aL)(apex:Bs)(hv:∀p∈w.zones,aR p.zone=true)(hn:w.zones.length<=100000) :
 FnP cxW pv0 62 [.agg (fE w),.d (.str apex)] [] (some (.tuple [.agg ((aG (bz w.zones apex).1).map .d),.d (.bool (bz w.zones apex).2)],[])):=by
 refine aT [] (fun|0=>[33333]|_=>[]) tyW sf Tryz.func62 (by kernel_rfl) rfl (ag rfl) (ag rfl) rfl ?_;have hsv:∀p∈w.zones,p.zone.sets.length<=100000/\ ∀s∈p.zone.sets,dG s.set=true:=λp hp=>by
  have ho:=bT (hv p hp);exact⟨by have:=ho.few;omega,ho.set⟩
 have step:∀b k p,w.zones[k]? =some p->kA apex b k (w.zones.drop k)=kA apex (lh apex b k p) (k+1) (w.zones.drop (k+1)):=λb k p hp=>by rw[drop_cons hp];rfl
 conv=>whnf
 refine⟨Nat×Option (Nat×ai),λx=>⟨[(1,.d (.str apex)),(2,.ptr 2 0),(4,.ptr 4 0),(6,.d (.int .i64 (match x.2 with|some (j,_)=>(j:Int)|none=> -1))),(12,.d (.slice 3 (w.zones.map aC))),(13,.d (.int .i64 ((w.zones.map aC).length:Int))),(14,.d (.int .i64 x.1))],[(2,.box (fE w)),(4,.box [.d (.str []),.nil 5])]⟩,
  λx=>x.1<=w.zones.length/\kA apex x.2 x.1 (w.zones.drop x.1)=sH w.zones apex/\ ∀j q,x.2=some (j,q)->w.zones[j]? =some q/\j<x.1,λx=>w.zones.length-x.1,
  ⟨(0,none),⟨Nat.zero_le _,rfl,λj q h=>by cases h⟩,ah.keep⟩,?_⟩
 rintro⟨k,b⟩ ⟨hk,hb,hj⟩;simp only at hk hb hj
 conv=>whnf
 refine af (λh1=>?_) (λh1=>?_) <;> (rw[h1];conv=>whnf)
 . have hlt:k<w.zones.length:=by simp at h1;omega
   obtain⟨p,hp⟩:∃p,w.zones[k]? =some p:=⟨_,aj hlt⟩
   have hpm:=hsv p (ar hp);rw[step b k p hp]at hb;unfold lh at hb;refine⟨aw k,aC p,aD hp,?_⟩
   conv=>whnf
   have again:∀b',kA apex b' (k+1) (w.zones.drop (k+1))=sH w.zones apex->(∀j q,b' =some (j,q)->w.zones[j]? =some q/\j<k+1)-> ∀st,ah cxW [] st ⟨[(1,.d (.str apex)),(2,.ptr 2 0),(4,.ptr 4 0),(6,.d (.int .i64 (match b' with|some (j,_)=>(j:Int)|none=> -1))),(12,.d (.slice 3 (w.zones.map aC))),(13,.d (.int .i64 ((w.zones.map aC).length:Int))),(14,.d (.int .i64 ((k+1:Nat):Int)))],[(2,.box (fE w)),(4,.box [.d (.str []),.nil 5])]⟩ ->
    ∃y:Nat×Option (Nat×ai),(y.1<=w.zones.length/\kA apex y.2 y.1 (w.zones.drop y.1)=sH w.zones apex/\ ∀j q,y.2=some (j,q)->w.zones[j]? =some q/\j<y.1)/\w.zones.length-y.1<w.zones.length-k/\ah cxW [] st ⟨[(1,.d (.str apex)),(2,.ptr 2 0),(4,.ptr 4 0),(6,.d (.int .i64 (match y.2 with|some (j,_)=>(j:Int)|none=> -1))),(12,.d (.slice 3 (w.zones.map aC))),(13,.d (.int .i64 ((w.zones.map aC).length:Int))),(14,.d (.int .i64 y.1))],[(2,.box (fE w)),(4,.box [.d (.str []),.nil 5])]⟩:=λb' e1 e2 st hw=>⟨(k+1,b'),⟨hlt,e1,e2⟩,by(show w.zones.length-(k+1)<w.zones.length-k;omega),hw⟩
   refine af (λh2=>?_) (λh2=>?_) <;> (rw[h2];conv=>whnf)
   . rw[if_pos (show(p.zone.apex != apex)=true from h2)]at hb;exact again b hb (λj q e=>by obtain⟨e1,e2⟩:=hj j q e;exact⟨e1,by omega⟩) _ (ah.keep ⟨ae,ae,ae,ae,ae,ae,⟨an (k:=k) (by omega),rfl⟩,trivial⟩)
   rw[if_neg (show ¬(p.zone.apex != apex)=true by(show ¬(!(p.zone.apex==apex))=true);rw[h2];simp)]at hb;cases b with
   |none =>
    conv=>whnf
    exact again (some (k,p)) hb (λj q e=>by cases e;exact⟨hp,Nat.lt_succ_self _⟩) _ (ah.keep ⟨ae,ae,ae,ae,ae,ae,⟨an (k:=k) (by omega),rfl⟩,trivial⟩)
   |some jq =>
   obtain⟨j,q⟩:=jq;obtain⟨hq,hjk⟩:=hj j q rfl;have hqm:=hsv q (ar hq);dsimp only at hb
   conv=>whnf
   refine⟨aw j,aC q,aD hq,?_⟩
   conv=>whnf
   have hor:kR [cR (bG q.zone) (bG p.zone),cR p.host q.host]=ud q p:=Hp _ _;have fO:=Cu [cR (bG q.zone) (bG p.zone),cR p.host q.host] (by simp);rw[hor]at fO
   (refine⟨(by kernel_rfl:bC _ _=true),?_⟩;conv=>whnf)
   (refine⟨_,_,zm q.zone hqm.1 hqm.2,?_⟩;conv=>whnf)
   (refine⟨_,_,zm p.zone hpm.1 hpm.2,?_⟩;conv=>whnf)
   (refine⟨_,_,kI (bG q.zone) (bG p.zone),?_⟩;conv=>whnf)
   (refine⟨_,_,kI p.host q.host,?_⟩;conv=>whnf)
   (refine⟨_,fO,by kernel_rfl,?_⟩;conv=>whnf)
   refine af (λh3=>?_) (λh3=>?_) <;> (rw[h3];conv=>whnf)
   . rw[if_pos (by simpa using h3)]at hb;exact again (some (k,p)) hb (λj q e=>by cases e;exact⟨hp,Nat.lt_succ_self _⟩) _ (ah.keep ⟨ae,ae,ae,ae,ae,ae,⟨an (k:=k) (by omega),rfl⟩,trivial⟩)
   . rw[if_neg (by simpa using h3)]at hb;exact again (some (j,q)) hb (λj' q' e=>by cases e;exact⟨hq,by omega⟩) _ (ah.keep ⟨ae,ae,ae,ae,ae,ae,⟨an (k:=k) (by omega),rfl⟩,trivial⟩)
 . obtain rfl:k=w.zones.length:=by simp at h1;omega
   rw[List.drop_length,kA]at hb;have hcw:sH w.zones apex=b:=hb.symm;cases b with
   |none =>
    have hz:bz w.zones apex=(hU,false):=by rw[bz,hcw]
    conv=>whnf
    exact bF rfl (by rw[hz];rfl) (by rw[hz];rfl)
   |some jq =>
    obtain⟨j,q⟩:=jq;obtain⟨hq,hjk⟩:=hj j q rfl;have hz:bz w.zones apex=(q.zone,true):=by rw[bz,hcw]
    conv=>whnf
    refine⟨aw j,aC q,aD hq,?_⟩
    conv=>whnf
    exact bF rfl (by rw[hz];rfl) (by rw[hz];rfl)
end Go.Proofs.YtodofogcincleaaGreatDoor
namespace NP
open NQ Go
def qh(s:Bs):Bool:=bc s&&(s != [42])&& !(Go.Lib.hasPrefix s [42,46])
def Ar(k:dy):Bool:=decide (1<=k.n)&&decide (k.n<=1000000)&&decide (1<=k.alg)&&decide (k.alg<=3)
def bk(w:aL)(n:Int):Bool:=decide (0<=n)&&decide (n<(w.hosts.length:Int))
def nameAt(w:aL)(n:Int):Bs:=match w.hosts[n.toNat]? with|some h=>h.name|none=>[]
def kN(w:aL):List Bs->List Int->Bool
 |_,[]=>true
 |seen,n::t=>bk w n&& !(seen.contains (nameAt w n))&&kN w (seen++[nameAt w n]) t
def fP(w:aL)(l:List Int):Bool:= !(decide ((l.length:Int)<1)||decide ((l.length:Int)>8))&&kN w [] l
def pn(l:List Bs):List (Bs×D):=l.map λa=>(a,.bool true)
theorem po(a:Bs):∀l:List Bs,bf a (pn l)=if l.contains a=true then some (.bool true)else none
 |[]=>rfl
 |x::l=>by
  show(if a=x then _ else bf a (pn l))=_
  by_cases h:a=x
  . subst h;simp
  . rw[if_neg h,po a l,List.contains_cons,show(a==x)=false by simpa using h,iJ]
theorem Md{a:Bs}{l:List Bs}(h:l.contains a=false):bS a (.bool true) (pn l)=pn (l++[a]):=by
 rw[lz (by rw[po,h];rfl)];simp[pn]
def vf(a b:Signed):Int:=if (ej a.set.name b.set.name).1=0 then cR a.set.type b.set.type else(ej a.set.name b.set.name).1
def lr(z:aB)(s:Bs)(kind:Int)(data:List Datum):Bool:=(wfR z s kind).2&&((wfR z s kind).1.data==data)
end NP
namespace Go.Proofs.YtodofogcincleaaGreatDoor
open NQ Go NP Go.RowKit
theorem mO(s a:Bs):NQ.Fn cx 134 [.str s,.str a] (.d (.bool (bl s a).1)) []:=by
 refine aM aV mixed Tryz.func134 (by kernel_rfl) rfl (ag rfl) ?_;conv=>whnf
 (refine⟨_,_,nu s a,?_⟩;conv=>whnf)
 have hu:(bl s a).1=true->(bl s a).2=0:=by
  unfold bl;split
  . intro _;rfl
  . intro h;cases h
 repeat' (first|(refine af (λh=>?_) (λh=>?_) <;> (rw[h];conv=>whnf))|fail)
 all_goals (refine al rfl ?_;show AV.d (D.bool _)=AV.d (D.bool _);congr 2;try simp_all)
theorem RA(s:Bs):NQ.Fn cx 95 [.str s,.str [42,46]] (.d (.bool (Go.Lib.hasPrefix s [42,46]))) []:=by
 refine eH ⟨_,Tryz.func95,by kernel_rfl,by kernel_rfl⟩ rfl λw vs _ hsz hrep=>?_
 obtain⟨b,hb,rfl⟩:=fm (hrep 0 _ rfl);obtain⟨c,hc,hc'⟩:=fm (hrep 1 _ rfl);rw[wh hsz,hb,hc];refine(Tryz.strings_HasPrefix _ _ _).mono ?_;rintro e w' ⟨rfl,rfl⟩;rw[hc'];exact⟨_,rfl,Below.refl _ _,.fe _⟩
theorem plain_fn(s:Bs):NQ.Fn cx 75 [.str s] (.d (.bool (qh s))) []:=by
 refine aM aV mixed Tryz.func75 (by kernel_rfl) rfl (ag rfl) ?_;conv=>whnf
 repeat' (first|(refine⟨_,_,mg s,?_⟩;conv=>whnf)|(refine⟨_,_,RA s,?_⟩;conv=>whnf)|(refine af (λh=>?_) (λh=>?_) <;> (rw[h];conv=>whnf))|fail)
 all_goals (refine al rfl ?_;show AV.d (D.bool _)=AV.d (D.bool _);congr 2;unfold qh;simp_all)
theorem Ha(k:dy):NQ.Fn cx 74 [.agg (cQ k)] (.d (.bool (Ar k))) []:=by
 refine aM aV mixed Tryz.func74 (by kernel_rfl) rfl (ag rfl) ?_;conv=>whnf
 repeat' (first|(refine af (λh=>?_) (λh=>?_) <;> (rw[h];conv=>whnf))|fail)
 all_goals (refine al rfl ?_;show AV.d (D.bool _)=AV.d (D.bool _);congr 2;unfold Ar;(try simp_all);(try omega))
theorem Bn(w:aL)(n:Int):NQ.Fn cx 76 [.agg (bn w),.int .i64 n] (.d (.bool (bk w n))) []:=by
 refine aM aV mixed Tryz.func76 (by kernel_rfl) rfl (ag rfl) ?_;conv=>whnf
 repeat' (first|(refine af (λh=>?_) (λh=>?_) <;> (rw[h];conv=>whnf))|fail)
 all_goals (refine al rfl ?_;show AV.d (D.bool _)=AV.d (D.bool _);congr 2;unfold bk;(try simp_all);(try omega))
theorem Eg(a b:Datum):NQ.Fn cx 125 [.agg (aI a),.agg (aI b)] (.d (.int .i64 (eU a b))) []:=by
 refine aM aV mixed Tryz.func125 (by kernel_rfl) rfl (ag rfl) ?_;conv=>whnf
 repeat' (first|(refine⟨(by kernel_rfl:bC _ _=true),?_⟩;conv=>whnf)|(refine⟨_,_,ue _ _,?_⟩;conv=>whnf)|(refine⟨_,_,kI _ _,?_⟩;conv=>whnf)|fail)
 refine⟨_,Cu [_,_,_] (by simp),rfl,?_⟩
 conv=>whnf
 refine al rfl ?_;rw[Hq];rfl
theorem yL(a b:Signed):NQ.Fn cx 183 [.agg (ak a),.agg (ak b)] (.d (.int .i64 (vf a b))) []:=by
 refine aM aV mixed Tryz.func183 (by kernel_rfl) rfl (ag rfl) ?_;conv=>whnf
 repeat' (first|(refine⟨(by kernel_rfl:bC _ _=true),?_⟩;conv=>whnf)|(refine⟨_,_,xU _ _,?_⟩;conv=>whnf)|(refine⟨_,_,kI _ _,?_⟩;conv=>whnf)|fail)
 refine⟨_,Cu [_,_] (by simp),rfl,?_⟩
 conv=>whnf
 refine al rfl ?_;rw[Hp];rfl
theorem KY(a b:List Datum)(ha:a.length<=200000):NQ.Fn cx 139 [.slice 3 (a.map aI),.slice 3 (b.map aI)] (.d (.bool (a==b))) []:=by
 refine aM aV mixed Tryz.func139 (by kernel_rfl) rfl (ag rfl) ?_;conv=>whnf
 by_cases hl:a.length=b.length
 . rw[show(((a.map aI).length:Int) != ((b.map aI).length:Int))=false by simp[hl]]
   conv=>whnf
   refine⟨Nat,λk=>⟨[(0,.d (.slice 3 (a.map aI))),(1,.d (.slice 3 (b.map aI))),(12,.d (.int .i64 ((a.map aI).length:Int))),(13,.d (.int .i64 k))],[]⟩,λk=>k<=a.length/\a.take k=b.take k,λk=>a.length-k,
    ⟨0,⟨Nat.zero_le _,rfl⟩,aF.keep ⟨ae,ae,ae,ae,trivial⟩ trivial⟩,λk ⟨hk,he⟩=>?_⟩
   dsimp only at hk he ⊢
   conv=>whnf
   refine af (λh1=>?_) (λh1=>?_) <;> (rw[h1];conv=>whnf)
   . have hlt:k<a.length:=by simpa using h1
     obtain⟨x,hx⟩:∃x,a[k]? =some x:=⟨_,aj hlt⟩
     obtain⟨y,hy⟩:∃y,b[k]? =some y:=⟨_,aj (by omega)⟩
     (refine⟨(by kernel_rfl:bC _ _=true),?_⟩;conv=>whnf)
     refine⟨aw k,aI x,aD hx,?_⟩
     conv=>whnf
     refine⟨aw k,aI y,aD hy,?_⟩
     conv=>whnf
     have hxe:(x.text==y.text&&(x.n==y.n&&(x.m==y.m&&true)))=(x==y):=by
      rw[Bool.eq_iff_iff];simp only[aH,beq_iff_eq,and_true];constructor
      . rintro⟨h1,h2,h3⟩;cases x;cases y;simp_all
      . rintro rfl;exact⟨rfl,rfl,rfl⟩
     rw[hxe];by_cases hxy:x=y
     . rw[show(x==y)=true by simp[hxy]]
       conv=>whnf
       refine⟨k+1,⟨hlt,?_⟩,by(show a.length-(k+1)<a.length-k;omega),aF.keep ⟨ae,ae,ae,⟨an (by omega),rfl⟩,trivial⟩ trivial⟩;rw[bU hx,bU hy,he,hxy]
     . rw[show(x==y)=false by simp[hxy]]
       conv=>whnf
       refine al rfl ?_;have:(a==b)=false:=by
        rw[beq_eq_false_iff_ne];intro e;rw[e,hy]at hx;exact hxy (by cases hx;rfl)
       rw[this];rfl
   . obtain rfl:k=a.length:=by simp at h1;omega
     refine al rfl ?_;rw[List.take_length,hl,List.take_length]at he;rw[he,beq_self_eq_true];rfl
 . rw[show(((a.map aI).length:Int) != ((b.map aI).length:Int))=true by simp;omega]
   conv=>whnf
   refine al rfl ?_;have:(a==b)=false:=by
    rw[beq_eq_false_iff_ne];rintro rfl;exact hl rfl
   rw[this];rfl
theorem qJ(z:aB)(s:Bs)(kind:Int)(data:List Datum)(hn:z.sets.length<=100000)(hd:(wfR z s kind).1.data.length<=200000):NQ.Fn cx 138 [.agg (aG z),.str s,.int .i64 kind,.slice 3 (data.map aI)] (.d (.bool (lr z s kind data))) []:=by
 refine aM aV mixed Tryz.func138 (by kernel_rfl) rfl (ag rfl) ?_;conv=>whnf
 (refine⟨_,_,mA z s kind hn,?_⟩;conv=>whnf)
 refine af (λh1=>?_) (λh1=>?_) <;> (rw[h1];conv=>whnf)
 . (refine⟨_,_,KY _ data hd,?_⟩;conv=>whnf)
   exact al rfl (by unfold lr;rw[h1];rfl)
 . exact al rfl (by unfold lr;rw[h1];rfl)
theorem uM(w:aL)(l:List Int):NQ.Fn cx 69 [.agg (bn w),.slice 1 (l.map cK)] (.d (.bool (fP w l))) []:=by
 refine aM aV mixed Tryz.func69 (by kernel_rfl) rfl (ag rfl) ?_;conv=>whnf
 refine af (λh0=>?_) (λh0=>?_) <;> (rw[h0];conv=>whnf)
 . exact al rfl (by unfold fP;simp only[ao]at h0;rw[h0];rfl)
 refine af (λh00=>?_) (λh00=>?_) <;> (rw[h00];conv=>whnf)
 . exact al rfl (by unfold fP;simp only[ao]at h0 h00;rw[h0,h00];rfl)
 have hR:fP w l=kN w [] l:=by unfold fP;simp only[ao]at h0 h00;rw[h0,h00];rfl
 rw[hR];have hlen:l.length<=8:=by simp only[ao]at h00;have:=of_decide_eq_false h00;omega
 refine⟨Nat,λk=>⟨[(2,.ptr 2 0),(5,.omap 16),(17,.d (.slice 1 (l.map cK))),(18,.d (.int .i64 ((l.map cK).length:Int))),(19,.d (.int .i64 k))],[(2,.box ((bn w).map .d)),(16,.smap (pn ((l.take k).map (nameAt w))))]⟩,
  λk=>k<=l.length/\kN w ((l.take k).map (nameAt w)) (l.drop k)=kN w [] l,λk=>l.length-k,⟨0,⟨Nat.zero_le _,rfl⟩,aF.keep⟩,λk ⟨hk,hg⟩=>?_⟩
 dsimp only at hk hg ⊢
 conv=>whnf
 refine af (λh1=>?_) (λh1=>?_) <;> (rw[h1];conv=>whnf)
 . have hlt:k<l.length:=by simpa using h1
   obtain⟨n,hn⟩:∃x,l[k]? =some x:=⟨_,aj hlt⟩
   rw[drop_cons hn,kN]at hg;refine⟨aw k,cK n,aD hn,?_⟩
   conv=>whnf
   (refine⟨_,_,Bn w n,?_⟩;conv=>whnf)
   refine af (λh2=>?_) (λh2=>?_) <;> (rw[h2];conv=>whnf)
   . exact al rfl (by rw[<- hg];simp at h2;rw[h2];rfl)
   . have hh:bk w n=true:=by simpa using h2
     have hh' :=hh;unfold bk at hh';simp only[aH,decide_eq_true_eq]at hh';obtain⟨h,hw⟩:∃h,w.hosts[n.toNat]? =some h:=⟨_,aj (by omega)⟩
     have hnm:nameAt w n=h.name:=by unfold nameAt;rw[hw]
     rw[hnm]at hg;refine⟨hh'.1,eN h,aD hw,?_⟩
     conv=>whnf
     cases hc:((l.take k).map (nameAt w)).contains h.name with
     |true =>
      rw[show bf h.name (pn ((l.take k).map (nameAt w)))=some (.bool true) by rw[po,hc];rfl]
      conv=>whnf
      exact al rfl (by rw[<- hg,hc,rf,kZ,vy];rfl)
     |false =>
      rw[show bf h.name (pn ((l.take k).map (nameAt w)))=none by rw[po,hc];rfl]
      conv=>whnf
      refine⟨hh'.1,eN h,aD hw,?_⟩
      conv=>whnf
      refine⟨k+1,⟨hlt,?_⟩,by(show l.length-(k+1)<l.length-k;omega),aF.keep ⟨ae,ae,ae,ae,⟨an (by omega),rfl⟩,trivial⟩ ⟨ae,⟨?_,rfl⟩,trivial⟩⟩
      . rw[<- hg,hh,hc,bU hn,List.map_append];simp[hnm]
      . show some (Blk.smap (bS h.name (.bool true) (pn ((l.take k).map (nameAt w)))))=_
        rw[Md hc,bU hn,List.map_append];simp[hnm]
 . obtain rfl:k=l.length:=by simp at h1;omega
   exact al rfl (by rw[<- hg,List.drop_length];rfl)
end Go.Proofs.YtodofogcincleaaGreatDoor
namespace NP
open NQ Go
def dY(host:Int)(apex:Bs)(p:ai):Bool:=decide (p.host=host)&&(p.zone.apex==apex)
def pJ(apex:Bs)(x:Bs×Bool)(p:ai):Bs×Bool:=if ((p.zone.apex != apex)&&(bl apex p.zone.apex).1&&(!x.2||(bl p.zone.apex x.1).1))=true then(p.zone.apex,true)else x
def jb(apex:Bs)(zs:List ai):Bs×Bool:=zs.foldl (pJ apex) ([],false)
def cB(zs:List ai)(apex:Bs):aB×Bool:=if (jb apex zs).2=true then(if (wfR (bz zs (jb apex zs).1).1 apex 2).2=true then((bz zs (jb apex zs).1).1,true)else(hU,false))else(hU,false)
def Py:List D->Datum
 |[.str t,.int _ n,.int _ m]=>⟨t,n,m⟩
 |_=>⟨[],0,0⟩
def SA(x y:List D):Int:=eU (Py x) (Py y)
theorem iQ(a b:Datum):eU a b=lex Go.Lib.compareBytes (lex cR cR) (a.text,a.n,a.m) (b.text,b.n,b.m):=rfl
theorem wx:iO eU:=by
 have h:=Av cN (Av sF sF);refine⟨λa b=>?_,λa b=>?_,λa b=>?_,λa b c=>?_⟩
 . rw[iQ];exact h.range _ _
 . rw[iQ,h.zero];cases a;cases b;simp
 . rw[iQ,iQ];exact h.anti _ _
 . rw[iQ,iQ,iQ];exact h.lt _ _ _
theorem iO.ok{α:Type}{c:α->α->Int}(h:iO c)(l:List α):ky c l:=by
 refine⟨λx _=>?_,λx _ y _ z _ h1 h2=>?_,λx _ y _ z _ h1 h2=>?_⟩
 . rw[(h.zero x x).2 rfl];omega
 . have:=h.SH h1 (Int.le_of_lt h2);exact this
 . have a1:=h.anti x y;have a2:=h.anti y z;have a3:=h.anti x z;have:=h.le_trans (a:=z) (b:=y) (c:=x) (by omega) (by omega);omega
theorem Iu(l:List Datum):ky eU l:=wx.ok l
def mN(w:aL)(n:Int):Datum:=⟨nameAt w n,0,0⟩
def cy(w:aL)(l:List Int):List Datum:=fT eU (l.map (mN w))
theorem yf(a:Bs):∀(zs:List ai) (b:Option (Nat×ai)) (i:Nat),(∀j q,b=some (j,q)->q.zone.apex=a) ->
 (∀j q,kA a b i zs=some (j,q)->q.zone.apex=a/\(b=some (j,q)\/q∈zs))/\(kA a b i zs=none->b=none/\ ∀p∈zs,p.zone.apex≠a)
 |[],b,i,hb=>⟨λj q h=>⟨hb j q h,.inl h⟩,λh=>⟨h,λp hp=>by cases hp⟩⟩
 |x::t,b,i,hb=>by
  have hs:∀j q,lh a b i x=some (j,q)->q.zone.apex=a/\(b=some (j,q)\/q=x):=λj q h=>by
   unfold lh at h;split at h
   . exact⟨hb j q h,.inl h⟩
   . rename_i hne;have hx:x.zone.apex=a:=by simpa using hne
     split at h
     . cases h;exact⟨hx,.inr rfl⟩
     . rename_i j' q';split at h
       . cases h;exact⟨hx,.inr rfl⟩
       . cases h;exact⟨hb _ _ rfl,.inl rfl⟩
  obtain⟨ih1,ih2⟩:=yf a t (lh a b i x) (i+1) λj q h=>(hs j q h).1
  refine⟨λj q h=>?_,λh=>?_⟩
  . obtain⟨h1,h2⟩:=ih1 j q h;refine⟨h1,?_⟩;rcases h2 with h2|h2
    . rcases (hs j q h2).2 with h3|rfl
      . exact .inl h3
      . exact .inr (List.mem_cons_self ..)
    . exact .inr (aZ _ h2)
  . obtain⟨h1,h2⟩:=ih2 h;unfold lh at h1;split at h1
    . rename_i hne;exact⟨h1,λp hp=>by
       rcases List.mem_cons.1 hp with rfl|hp
       . simpa using hne
       . exact h2 p hp⟩
    . split at h1
      . cases h1
      . split at h1 <;> cases h1
theorem eF(zs:List ai)(a:Bs):(∃p∈zs,bz zs a=(p.zone,true)/\p.zone.apex=a)\/(bz zs a=(hU,false)/\ ∀p∈zs,p.zone.apex≠a):=by
 obtain⟨h1,h2⟩:=yf a zs none 0 λj q h=>by cases h
 unfold bz sH;cases h:kA a none 0 zs with
 |none=>exact .inr ⟨rfl,(h2 h).2⟩
 |some jq =>
  obtain⟨j,q⟩:=jq;obtain⟨g1,g2⟩:=h1 j q h;rcases g2 with g2|g2
  . cases g2
  . exact .inl ⟨q,g2,rfl,g1⟩
end NP
namespace Go.Proofs.YtodofogcincleaaGreatDoor
open NQ Go NP Go.RowKit
theorem Bb{zs:List ai}(hv:∀p∈zs,aR p.zone=true)(a:Bs):(bz zs a).1.sets.length<=100000:=by
 rcases eF zs a with ⟨p,hp,h,_⟩|⟨h,_⟩
 . rw[h];have:=(bT (hv p hp)).few;(show p.zone.sets.length<=100000);omega
 . rw[h];exact Nat.zero_le _
theorem bx{cx cx' :Cx}(h1:cx'.P=cx.P)(h2:cx'.gl=cx.gl){pv:Int->Value}{f:FuncId}{args:List AV}{h:List (Nat×Blk)}{out:Option (AV×List (Nat×Blk))}(hf:FnP cx pv f args h out):FnP cx' pv f args h out:=by
 unfold FnP ff iN at *
 rw[h1,h2];exact hf
noncomputable def cxO:Cx:={cx with chg:=fY [(62,10),(124,2)]}
theorem tyO:ba cxO:=aV
theorem yO:cxO.P.follows .mixedOrders=true:=mixed
theorem qu(w:aL)(apex:Bs)(hv:∀p∈w.zones,aR p.zone=true)(hn:w.zones.length<=100000) :
 FnP cxO pv0 112 [.agg (fE w),.d (.str apex)] [] (some (.tuple [.agg ((aG (cB w.zones apex).1).map .d),.d (.bool (cB w.zones apex).2)],[])):=by
 refine aT [] (fun|0=>[33333]|11=>[33333]|_=>[]) tyO yO Tryz.func112 (by kernel_rfl) rfl (ag rfl) (ag rfl) rfl ?_
 conv=>whnf
 refine⟨Nat×Bs×Bool,λx=>⟨[(1,.d (.str apex)),(2,.ptr 2 0),(4,.ptr 4 0),(6,.d (.str x.2.1)),(7,.d (.bool x.2.2)),(17,.d (.slice 3 (w.zones.map aC))),(18,.d (.int .i64 ((w.zones.map aC).length:Int))),(19,.d (.int .i64 x.1))],[(2,.box (fE w)),(4,.box [.d (.str []),.nil 5])]⟩,
  λx=>x.1<=w.zones.length/\x.2=jb apex (w.zones.take x.1),λx=>w.zones.length-x.1,⟨(0,[],false),⟨Nat.zero_le _,rfl⟩,ah.keep⟩,?_⟩
 rintro⟨k,l,b⟩ ⟨hk,hx⟩;dsimp only at hk hx
 conv=>whnf
 refine af (λh1=>?_) (λh1=>?_) <;> (rw[h1];conv=>whnf)
 . have hlt:k<w.zones.length:=by simpa using h1
   obtain⟨p,hp⟩:∃x,w.zones[k]? =some x:=⟨_,aj hlt⟩
   have hS:jb apex (w.zones.take (k+1))=pJ apex (l,b) p:=by
    rw[bU hp,hx];unfold jb;rw[List.foldl_append];rfl
   have yes:((p.zone.apex != apex)&&(bl apex p.zone.apex).1&&(!b||(bl p.zone.apex l).1))=true->(p.zone.apex,true)=jb apex (w.zones.take (k+1)):=λh=>by rw[hS,pJ,if_pos h]
   have no:((p.zone.apex != apex)&&(bl apex p.zone.apex).1&&(!b||(bl p.zone.apex l).1))=false->(l,b)=jb apex (w.zones.take (k+1)):=λh=>by rw[hS,pJ,if_neg (by rw[h];decide)]
   refine⟨aw k,aC p,aD hp,?_⟩
   conv=>whnf
   have hbne:(p.zone.apex != apex)= !(p.zone.apex==apex):=rfl
   repeat' (first|(refine⟨_,_,mO apex p.zone.apex,?_⟩;conv=>whnf)|(refine⟨_,_,mO p.zone.apex l,?_⟩;conv=>whnf)|(refine af (λh=>?_) (λh=>?_) <;> (rw[h];conv=>whnf))|fail)
   all_goals first
    |(refine⟨(k+1,p.zone.apex,true),⟨hlt,yes (by simp only[hbne, *, if_true,if_false,aK])⟩,by(show w.zones.length-(k+1)<w.zones.length-k;omega),ah.keep ⟨ae,ae,ae,ae,ae,ae,ae,⟨an (k:=k) (by omega),rfl⟩,trivial⟩⟩;done)
    |(refine⟨(k+1,l,b),⟨hlt,no (by simp only[hbne, *, if_true,if_false,aK])⟩,by(show w.zones.length-(k+1)<w.zones.length-k;omega),ah.keep ⟨ae,ae,ae,ae,ae,ae,ae,⟨an (k:=k) (by omega),rfl⟩,trivial⟩⟩;done)
    |(subst_vars;refine⟨(k+1,l,true),⟨hlt,no (by simp only[hbne, *, if_true,if_false,aK])⟩,by(show w.zones.length-(k+1)<w.zones.length-k;omega),ah.keep ⟨ae,ae,ae,ae,ae,ae,ae,⟨an (k:=k) (by omega),rfl⟩,trivial⟩⟩;done)
 . obtain rfl:k=w.zones.length:=by simp at h1;omega
   rw[List.take_length]at hx;have hz:cB w.zones apex=if b=true then(if (wfR (bz w.zones l).1 apex 2).2=true then((bz w.zones l).1,true)else(hU,false))else(hU,false):=by unfold cB;rw[<- hx]
   rw[hz];refine af (λh2=>?_) (λh2=>?_) <;> (rw[h2];conv=>whnf)
   . have hb:b=false:=by simpa using h2
     subst hb;exact bF rfl rfl rfl
   have hb:b=true:=by simpa using h2
   subst hb;have hC:=bx (cx' :=cxO) rfl rfl (iz w l hv hn);refine⟨[2,4],_,hC,⟨rfl,rfl,rfl⟩,?_⟩
   conv=>whnf
   refine aA ?_
   conv=>whnf
   (refine⟨_,_,mA (bz w.zones l).1 apex 2 (Bb hv l),?_⟩;conv=>whnf)
   refine af (λh3=>?_) (λh3=>?_) <;> (rw[h3];conv=>whnf)
   . have h4:(wfR (bz w.zones l).1 apex 2).2=false:=by simpa using h3
     rw[h4];exact bF rfl rfl rfl
   . have h4:(wfR (bz w.zones l).1 apex 2).2=true:=by simpa using h3
     rw[h4];exact bF rfl rfl rfl
theorem FH(p:ai)(host:Int)(apex:Bs):NQ.Fn cx 180 [.agg (aC p),.ptr [.int .i64 host],.ptr [.str apex]] (.d (.bool (dY host apex p))) []:=by
 refine aM aV mixed Tryz.func180 (by kernel_rfl) rfl (ag rfl) ?_;conv=>whnf
 repeat' (first|(refine af (λh=>?_) (λh=>?_) <;> (rw[h];conv=>whnf))|fail)
 all_goals (refine al rfl ?_;show AV.d (D.bool _)=AV.d (D.bool _);congr 2;unfold dY;(try simp_all))
theorem NV(l:List ai)(p:ai->Bool)(x y:D)(hn:l.length<=100000)(hf:∀s∈l,NQ.Fn cx 180 [.agg (aC s),x,y] (.d (.bool (p s))) []) :
 NQ.Fn cx 222 [.slice 3 (l.map aC),.fn 180 [] [x,y]] (.d (.int .i64 (match l.findIdx? p with|some k=>(k:Int)|none=> -1))) []:=by
 refine aM aV mixed Tryz.func222 (by kernel_rfl) rfl (ag rfl) ?_;conv=>whnf
 refine⟨Nat,λk=>⟨[(0,.d (.slice 3 (l.map aC))),(1,.d (.fn 180 [] [x,y])),(7,.d (.int .i64 ((l.map aC).length:Int))),(8,.d (.int .i64 k))],[]⟩,λk=>k<=l.length/\ ∀j y,j<k->l[j]? =some y->p y=false,λk=>l.length-k,
  ⟨0,⟨by omega,λj y h=>by omega⟩,aF.keep ⟨ae,ae,ae,ae,trivial⟩ trivial⟩,λk hk=>?_⟩
 obtain⟨hk,hall⟩:=hk
 conv=>whnf
 refine af (λh1=>?_) (λh1=>?_) <;> (rw[h1];conv=>whnf)
 . have hlt:k<l.length:=by simp at h1;omega
   obtain⟨s,hs⟩:∃s,l[k]? =some s:=⟨_,aj hlt⟩
   refine⟨aw k,aC s,aD hs,?_⟩
   conv=>whnf
   (refine⟨_,_,hf s (ar hs),?_⟩;conv=>whnf)
   refine af (λh2=>?_) (λh2=>?_) <;> (rw[h2];conv=>whnf)
   . refine al rfl ?_;have:l.findIdx? p=some k:=by
      rw[List.findIdx?_eq_some_iff_getElem];obtain⟨g1,g2⟩:=aq.1 hs;refine⟨g1,by rw[g2];exact h2,λj hj=>?_⟩;have:=hall j (l[j]) hj (aj (by omega));rw[this];decide
     rw[this];rfl
   . refine⟨k+1,⟨hlt,λj y hj hy=>?_⟩,by(show l.length-(k+1)<l.length-k;omega),aF.keep ⟨ae,ae,ae,⟨an (by omega),rfl⟩,trivial⟩ trivial⟩;rcases Nat.lt_succ_iff_lt_or_eq.1 hj with hj|rfl
     . exact hall j y hj hy
     . rw[hs]at hy;cases hy;exact h2
 . obtain rfl:k=l.length:=by simp at h1;omega
   refine al rfl ?_;have:l.findIdx? p=none:=by
    rw[List.findIdx?_eq_none_iff];intro x hx;obtain⟨i,hi⟩:=cd hx;exact hall i x (aq.1 hi).1 hi
   rw[this];rfl
theorem wE{α:Type}(p:α->Bool)(l:List α):decide ((match l.findIdx? p with|some k=>(k:Int)|none=> -1)>=0)=l.any p:=by
 cases h:l.findIdx? p with
 |some k =>
  obtain⟨h1,h2,_⟩:=List.findIdx?_eq_some_iff_getElem.1 h;have:l.any p=true:=List.any_eq_true.2 ⟨_,List.getElem_mem h1,h2⟩;rw[this,decide_eq_true];exact aw k
 |none =>
  have:l.any p=false:=by
   rw[<- Bool.not_eq_true,List.any_eq_true];rintro⟨x,hx,hp⟩;have:=List.findIdx?_eq_none_iff.1 h x hx;rw[this]at hp;cases hp
  rw[this];rfl
theorem MR(l:List ai)(p:ai->Bool)(x y:D)(hn:l.length<=100000)(hf:∀s∈l,NQ.Fn cx 180 [.agg (aC s),x,y] (.d (.bool (p s))) []) :
 NQ.Fn cx 179 [.slice 3 (l.map aC),.fn 180 [] [x,y]] (.d (.bool (l.any p))) []:=by
 refine aM aV mixed Tryz.func179 (by kernel_rfl) rfl (ag rfl) ?_;conv=>whnf
 (refine⟨_,_,NV l p x y hn hf,?_⟩;conv=>whnf)
 refine al rfl ?_;show AV.d (D.bool (decide ((match l.findIdx? p with|some k=>(k:Int)|none=> -1)>=0)))=_
 rw[wE]
theorem ka(w:aL)(host:Int)(apex:Bs)(hn:w.zones.length<=100000) :
 FnP cxO pv0 113 [.agg (fE w),.d (.int .i64 host),.d (.str apex)] [] (some (.d (.bool (w.zones.any (dY host apex))),[])):=by
 refine aT [] (fun|0=>[33333]|_=>[]) tyO yO Tryz.func113 (by kernel_rfl) rfl (ag rfl) (ag rfl) rfl ?_
 conv=>whnf
 (refine⟨_,MR w.zones (dY host apex) _ _ hn (λp _=>FH p host apex),rfl,?_⟩;conv=>whnf)
 exact bF rfl rfl rfl trivial
theorem BG(l:List Datum)(hl:l.length<=100000)(fl:Bool):FnR cx 124 false 70 3 (l.map aI) fl [.fn 125 [] []] ((fT eU l).map aI):=by
 rw[<- BH aI eU SA l λx _ y _=>rfl];exact EM (cx:=cx) (ρ:=Tryz.wV) Tryz.Re (k:=3) Tryz.isAgg70 Tryz.sizeOf70 ⟨_,Tryz.func124,by kernel_rfl,rfl⟩
  (λx hx y hy=>by
   obtain⟨a,ha,rfl⟩:=List.mem_map.1 hx;obtain⟨b,hb,rfl⟩:=List.mem_map.1 hy;exact Eg a b) (enters_of Tryz.func125 (by kernel_rfl) rfl) ((Iu l).map λx _ y _=>rfl) (by rw[ao];omega)
theorem rE(w:aL)(l:List Int)(hl:l.length<=1000)(hh:∀n∈l,bk w n=true) :
 FnP cxO pv0 117 [.agg (fE w),.d (.slice 1 (l.map cK))] [] (some (.d (.slice 3 ((cy w l).map aI)),[])):=by
 refine aT [] (fun|0=>[33333]|_=>[]) tyO yO Tryz.func117 (by kernel_rfl) rfl (ag rfl) (ag rfl) rfl ?_
 conv=>whnf
 refine⟨Nat,λk=>⟨[(2,.ptr 2 0),(5,.own 55),(8,.d (.slice 1 (l.map cK))),(9,.d (.int .i64 ((l.map cK).length:Int))),(10,.d (.int .i64 k))],[(2,.box (fE w)),(55,.row 70 3 (((l.take k).map (mN w)).map aI))]⟩,λk=>k<=l.length,λk=>l.length-k,
  ⟨0,Nat.zero_le _,(ah.kj 5 55 3 70 3 rfl rfl (by decide)).trans (ah.keep)⟩,λk hk=>?_⟩
 conv=>whnf
 refine af (λh1=>?_) (λh1=>?_) <;> (rw[h1];conv=>whnf)
 . have hlt:k<l.length:=by simp at h1;omega
   obtain⟨n,hn⟩:∃s,l[k]? =some s:=⟨_,aj hlt⟩
   have hw:=hh n (ar hn);unfold bk at hw;simp only[aH,decide_eq_true_eq]at hw;obtain⟨h,hh2⟩:∃h,w.hosts[n.toNat]? =some h:=⟨_,aj (by omega)⟩
   refine⟨aw k,cK n,aD hn,?_⟩
   conv=>whnf
   refine⟨hw.1,eN h,aD hh2,?_⟩
   conv=>whnf
   have hS:((l.take (k+1)).map (mN w)).map aI=((l.take k).map (mN w)).map aI++[[.str h.name,.int .i64 0,.int .i64 0]]:=by
    rw[bU hn,List.map_append,List.map_append]
    congr 1
    show[aI (mN w n)]=_
    unfold mN nameAt;rw[hh2];rfl
   refine⟨by simp;omega,by simp;omega,?_⟩
   conv=>whnf
   refine⟨k+1,hlt,by(show l.length-(k+1)<l.length-k;omega),ah.keep ⟨ae,ae,ae,ae,⟨an (k:=k) (by omega),rfl⟩,trivial⟩ ⟨ae,⟨congrArg (λr=>some (Blk.row 70 3 r)) hS.symm,rfl⟩,trivial⟩⟩
 . obtain rfl:k=l.length:=by simp at h1;omega
   rw[List.take_length];have hso:=λfl=>BG (l.map (mN w)) (by simp;omega) fl
   rw[show fT eU (l.map (mN w))=cy w l from rfl]at hso;refine⟨_,hso _,?_⟩;generalize cy w l=sv
   conv=>whnf
   exact EE [55] rfl rfl rfl
end Go.Proofs.YtodofogcincleaaGreatDoor
namespace NP
open NQ Go
structure aY where
 kind:Int
 zone:Bs
 name:Bs
 hosts:List Int
 key:dy
 deriving DecidableEq
def aS(x:aY):List D:=[.int .i64 x.kind,.str x.zone,.str x.name,.slice 1 (x.hosts.map cK),.int .i64 x.key.n,.int .i64 x.key.alg]
def lS(w:aL)(z:aB)(s:Bs):Bool:= !(!qh s||(s==z.apex)|| !(bl s z.apex).1)&&(!(bz w.zones s).2&&(((oJ z s).2.2==0)&& !(oJ z s).2.1))
def na(k:dy):Bool:=(k.n==0)&&((k.alg==0)&&true)
def qe(w:aL)(l:List Int):Bool:=match l with|[n]=>bk w n|_=>false
theorem yX{w:aL}{l:List Int}(h:l.length≠1):qe w l=false:=by
 match l,h with
 |[],_=>rfl
 |[n],h=>exact absurd rfl h
 |_::_::_,_=>rfl
def iW(w:aL)(x:aY):Bool :=
 if x.kind=1 then(x.name==[])&&na x.key&&fP w x.hosts
 else if x.kind=2 then(x.name==[])&&decide ((x.hosts.length:Int)=0)&&Ar x.key
 else if x.kind=3 then qh x.name&&na x.key&&qe w x.hosts
 else if x.kind=4 then lS w (bz w.zones x.zone).1 x.name&&fP w x.hosts&&Ar x.key
 else false
def eQ(w:aL)(x:aY):Bool:= !(!eB w||(x.zone==[46]))&&((bz w.zones x.zone).2&&iW w x)
end NP
namespace Go.Proofs.YtodofogcincleaaGreatDoor
open NQ Go NP Go.RowKit
noncomputable def cxV:Cx:={cx with chg:=fY [(62,10),(77,10)]}
theorem tyV:ba cxV:=aV
theorem RV:cxV.P.follows .mixedOrders=true:=mixed
theorem Gf(w:aL)(z:aB)(s:Bs)(hv:∀p∈w.zones,aR p.zone=true)(hn:w.zones.length<=100000) :
 FnP cxO pv0 77 [.agg (fE w),.agg ((aG z).map .d),.d (.str s)] [] (some (.d (.bool (lS w z s)),[])):=by
 refine aT [] (fun|0=>[33333]|3=>[33333]|_=>[]) tyO yO Tryz.func77 (by kernel_rfl) rfl (ag rfl) (ag rfl) rfl ?_
 conv=>whnf
 (refine⟨_,_,plain_fn s,?_⟩;conv=>whnf)
 have hbad:(!qh s||(s==z.apex)|| !(bl s z.apex).1)=true->lS w z s=false:=λh=>by unfold lS;rw[h];rfl
 repeat' (first|(refine⟨_,_,mO s z.apex,?_⟩;conv=>whnf)|(refine af (λh=>?_) (λh=>?_) <;> (rw[h];conv=>whnf))|fail)
 all_goals first
  |exact bF rfl (by rw[hbad (by simp only[*, if_true,if_false,aK])];rfl) rfl trivial
  |skip
 have hok:(!qh s||(s==z.apex)|| !(bl s z.apex).1)=false:=by simp only[*, if_true,if_false,aK]
 have hsp:lS w z s=(!(bz w.zones s).2&&(((oJ z s).2.2==0)&& !(oJ z s).2.1)):=by unfold lS;rw[hok];rfl
 rw[hsp];have hC:=bx (cx' :=cxO) rfl rfl (iz w s hv hn);refine⟨[3,4],_,hC,⟨rfl,rfl,rfl⟩,?_⟩
 conv=>whnf
 refine aA ?_
 conv=>whnf
 refine af (λh3=>?_) (λh3=>?_) <;> (rw[h3];conv=>whnf)
 . exact bF rfl rfl rfl trivial
 . (refine⟨_,_,Rx z s,?_⟩;conv=>whnf)
   repeat' (first|(refine af (λh=>?_) (λh=>?_) <;> (rw[h];conv=>whnf))|fail)
   all_goals exact bF rfl (by(try simp only[*, if_true,if_false,aK]);rfl) rfl trivial
set_option maxHeartbeats 1000000 in
theorem oS(w:aL)(x:aY)(hF:tR w) :
 FnP cxV pv0 32 [.agg ((bn w).map .d),.agg ((aS x).map .d)] [] (some (.d (.bool (eQ w x)),[])):=by
 refine aT [] (fun|4=>[33333]|16=>[33333]|_=>[]) tyV RV Tryz.func32 (by kernel_rfl) rfl (ag rfl) (ag rfl) rfl ?_
 conv=>whnf
 have hn:w.zones.length<=100000:=by have:=hF.zones;omega
 (refine⟨_,_,vo w hF,?_⟩;conv=>whnf)
 have hbad:(!eB w||(x.zone==[46]))=true->eQ w x=false:=λh=>by unfold eQ;rw[h];rfl
 repeat' (first|(refine af (λh=>?_) (λh=>?_) <;> (rw[h];conv=>whnf))|fail)
 all_goals first
  |exact bF rfl (by rw[hbad (by simp only[*, if_true,if_false,aK])];rfl) rfl trivial
  |skip
 have hok:(!eB w||(x.zone==[46]))=false:=by simp only[*, if_true,if_false,aK]
 have hvw:eB w=true:=by cases h:eB w <;> simp_all
 have hv:=λp hp=>(gY hvw p hp).1
 have hsp:eQ w x=((bz w.zones x.zone).2&&iW w x):=by unfold eQ;rw[hok];rfl
 rw[hsp];have hC:=bx (cx' :=cxV) rfl rfl (iz w x.zone hv hn);refine⟨[2,3,5],_,hC,⟨rfl,rfl,rfl⟩,?_⟩
 conv=>whnf
 refine aA ?_
 conv=>whnf
 refine af (λh3=>?_) (λh3=>?_) <;> (rw[h3];conv=>whnf)
 . have h4:(bz w.zones x.zone).2=false:=by simpa using h3
   exact bF rfl (by rw[h4];rfl) rfl trivial
 have h4:(bz w.zones x.zone).2=true:=by simpa using h3
 rw[h4,gZ];by_cases k1:x.kind=1
 . have hk:iW w x=((x.name==[])&&na x.key&&fP w x.hosts):=by unfold iW;rw[if_pos k1]
   rw[hk,show(x.kind==1)=true by simp[k1]]
   conv=>whnf
   repeat' (first|(refine⟨_,_,uM w x.hosts,?_⟩;conv=>whnf)|(refine af (λh=>?_) (λh=>?_) <;> (rw[h];conv=>whnf))|fail)
   all_goals exact bF rfl (by clear hsp hC hbad hv hok;refine congrArg (λb=>AV.d (D.bool b)) ?_;(try unfold na);(try simp_all)) rfl trivial
 rw[show(x.kind==1)=false by simp[k1]]
 conv=>whnf
 by_cases k2:x.kind=2
 . have hk:iW w x=((x.name==[])&&decide ((x.hosts.length:Int)=0)&&Ar x.key):=by unfold iW;rw[if_neg k1,if_pos k2]
   rw[hk,show(x.kind==2)=true by simp[k2]]
   conv=>whnf
   repeat' (first|(refine⟨_,_,Ha x.key,?_⟩;conv=>whnf)|(refine af (λh=>?_) (λh=>?_) <;> (rw[h];conv=>whnf))|fail)
   all_goals exact bF rfl (by clear hsp hC hbad hv hok;refine congrArg (λb=>AV.d (D.bool b)) ?_;(try unfold na);(try simp_all)) rfl trivial
 rw[show(x.kind==2)=false by simp[k2]]
 conv=>whnf
 by_cases k3:x.kind=3
 . have hk:iW w x=(qh x.name&&na x.key&&qe w x.hosts):=by unfold iW;rw[if_neg k1,if_neg k2,if_pos k3]
   rw[hk,show(x.kind==3)=true by simp[k3]]
   conv=>whnf
   (refine⟨(by kernel_rfl:bC _ _=true),?_⟩;conv=>whnf)
   repeat' (first|(refine⟨_,_,plain_fn x.name,?_⟩;conv=>whnf)|(refine af (λh=>?_) (λh=>?_) <;> (rw[h];conv=>whnf))|fail)
   all_goals first
    |exact bF rfl (by clear hsp hC hbad hv hok;refine congrArg (λb=>AV.d (D.bool b)) ?_;(try unfold na);(try simp_all);(first|done|rfl|exact yX (by omega))) rfl trivial
    |skip
   obtain⟨n,hn1⟩:∃n,x.hosts=[n]:=by
    have h6:x.hosts.length=1:=by
     simp only[ao,beq_iff_eq]at *;omega
    match x.hosts,h6 with
    |[n],_=>exact⟨n,rfl⟩
   refine⟨Int.le_refl 0,cK n,by rw[hn1];rfl,?_⟩
   conv=>whnf
   (refine⟨_,_,Bn w n,?_⟩;conv=>whnf)
   exact bF rfl (by clear hsp hC hbad hv hok;refine congrArg (λb=>AV.d (D.bool b)) ?_;(try unfold na);(try simp_all);(first|done|rfl|exact yX (by omega))) rfl trivial
 rw[show(x.kind==3)=false by simp[k3]]
 conv=>whnf
 by_cases k4:x.kind=4
 . have hk:iW w x=(lS w (bz w.zones x.zone).1 x.name&&fP w x.hosts&&Ar x.key):=by unfold iW;rw[if_neg k1,if_neg k2,if_neg k3,if_pos k4]
   rw[hk,show(x.kind==4)=true by simp[k4]]
   conv=>whnf
   have hS:=bx (cx' :=cxV) rfl rfl (Gf w (bz w.zones x.zone).1 x.name hv hn);refine⟨[2,3,5,6],_,hS,⟨rfl,rfl,rfl⟩,?_⟩
   conv=>whnf
   refine aA ?_
   conv=>whnf
   repeat' (first|(refine⟨_,_,Ha x.key,?_⟩;conv=>whnf)|(refine⟨_,_,uM w x.hosts,?_⟩;conv=>whnf)|(refine af (λh=>?_) (λh=>?_) <;> (rw[h];conv=>whnf))|fail)
   all_goals exact bF rfl (by clear hsp hC hbad hv hok;refine congrArg (λb=>AV.d (D.bool b)) ?_;(try unfold na);(try simp_all)) rfl trivial
 rw[show(x.kind==4)=false by simp[k4]]
 conv=>whnf
 have hk:iW w x=false:=by unfold iW;rw[if_neg k1,if_neg k2,if_neg k3,if_neg k4]
 exact bF rfl (by rw[hk];rfl) rfl trivial
end Go.Proofs.YtodofogcincleaaGreatDoor
