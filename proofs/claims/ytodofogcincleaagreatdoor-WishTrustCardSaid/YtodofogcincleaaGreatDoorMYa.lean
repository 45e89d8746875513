/-
  Merged texts.
-/
import Derived.Test.YtodofogcincleaaGreatDoorMQbs
import Derived.Test.YtodofogcincleaaGreatDoorMGk
set_option linter.all false
set_option maxHeartbeats 2000000
set_option maxRecDepth 100000
namespace Go.Proofs.YtodofogcincleaaGreatDoor
open NQ Go.RowKit
def gP(c:Int):List D:=[.int .u8 c]
def dj(n:Int):List D:=[.int .i64 n]
def TN(x c:Int):Int:=IntKind.u64.wrap (Ph .u64 x (IntKind.u64.wrap c)*1099511628211)
def lL:Int->List Int->Int
 |x,[]=>x
 |x,c::t=>lL (TN x c) t
def eK(n:Int):List Int:=(List.range 8).map λi=>IntKind.u8.wrap ((IntKind.u64.wrap n).fdiv (2 ^ (56-8*i)))
def pQ:Int->List Int->Int
 |x,[]=>x
 |x,n::t=>pQ (lL x (eK n)) t
def sH(s:Bs):List Int:=s.map λc=>(c.toNat:Int)
theorem Dj(s:Bs):eC s=(sH s).map gP:=by simp[eC,sH,gP,Function.comp_def]
def Rl(set:List Int)(ah:Bs)(n m since aN:Int):Int :=
 pQ (lL (lL (lL 14695981039346656037 set) [IntKind.u8.wrap (ah.length:Int)]) (sH ah)) [n,m,since,aN]
def US(n m:Int):List D:=[.int .i64 n,.int .i64 m]
theorem xc(x:Int)(l:List Int)(hl:l.length<=100000000):FnB cx 162 [.int .u64 x] [.slice 1 (l.map gP)] (.tuple []) [.int .u64 (lL x l)]:=by
 refine KD (λ_=>[]) bo mixed Tryz.func162 ?_;conv=>whnf
 refine⟨Nat×Int,λy=>⟨[(0,.ptr 100000 0),(6,.d (.slice 1 (l.map gP))),(7,.d (.int .i64 ((l.map gP).length:Int))),(8,.d (.int .i64 y.1))],[(100000,.box [.d (.int .u64 y.2)])]⟩,
  λy=>y.1<=l.length/\lL y.2 (l.drop y.1)=lL x l,λy=>l.length-y.1,⟨(0,x),⟨by omega,rfl⟩,aK.keep ⟨ae,ae,ae,ae,trivial⟩ ⟨ae,trivial⟩⟩,?_⟩
 rintro⟨k,d⟩ ⟨hk,hc⟩;simp only at hk hc;conv=>whnf
 refine aj (λh1=>?_) (λh1=>?_) <;> (rw[h1];conv=>whnf)
 .have hA:k<l.length:=by simp at h1;omega
  obtain⟨c,ky⟩:∃c,l[k]? =some c:=⟨_,au hA⟩
  rw[drop_cons ky,lL]at hc;refine⟨aC k,gP c,aM ky,?_⟩;conv=>whnf
  refine⟨(k+1,TN d c),⟨hA,hc⟩,by(show l.length-(k+1)<l.length-k;omega),aK.keep ⟨ae,ae,ae,⟨ax (by omega),rfl⟩,trivial⟩ ⟨ae,trivial⟩⟩
 .obtain rfl:k=l.length:=by simp at h1;omega
  rw[List.drop_length,lL]at hc;refine⟨[],_,_,rfl,rfl,rfl,?_⟩;rw[<- hc];rfl
noncomputable def gX (l:List (Nat×Nat)) (f:Nat):Nat:=match find l f with|some n=>n|none=>cx.chg f
noncomputable def cxG:Cx:={cx with chg:=gX [(162,3),(161,9)],bld:=[19,31]}
theorem tyG:bD cxG:=bo
theorem NJ:cxG.P.follows .mixedOrders=true:=mixed
def pv0:Int->Value:=λ_=>undef
theorem Rk(x:Int)(l:List Int)(hl:l.length<=100000):FnP cxG pv0 161 [.d (.slice 1 (l.map dj)),.ptr 100011 0] [(100011,.box [.d (.int .u64 x)])] (some (.tuple [],[(100011,.box [.d (.int .u64 (pQ x l))])])):=by
 refine bt [] (fun|9=>[33333,5]|_=>[]) tyG NJ Tryz.func161 ?_;conv=>whnf
 refine⟨Nat×Int,λy=>⟨[(1,.ptr 100011 0),(7,.d (.slice 1 (l.map dj))),(8,.d (.int .i64 ((l.map dj).length:Int))),(9,.d (.int .i64 y.1))],[(100011,.box [.d (.int .u64 y.2)])]⟩,
  λy=>y.1<=l.length/\pQ y.2 (l.drop y.1)=pQ x l,λy=>l.length-y.1,⟨(0,x),⟨by omega,rfl⟩,(aq.keep ⟨ae,ae,ae,ae,trivial⟩ ⟨ae,trivial⟩)⟩,?_⟩
 rintro⟨k,d⟩ ⟨hk,hc⟩;simp only at hk hc;conv=>whnf
 refine aj (λh1=>?_) (λh1=>?_) <;> (rw[h1];conv=>whnf)
 .have hA:k<l.length:=by simp at h1;omega
  obtain⟨n,kE⟩:∃n,l[k]? =some n:=⟨_,au hA⟩
  rw[drop_cons kE,pQ]at hc;refine⟨aC k,dj n,aM kE,?_⟩;conv=>whnf
  refine⟨Nat,λi=>⟨[(1,.ptr 100011 0),(4,.d (.int .i64 n)),(5,.ptr 5 0),(7,.d (.slice 1 (l.map dj))),(8,.d (.int .i64 ((l.map dj).length:Int))),(9,.d (.int .i64 k)),(13,.d (.int .i64 i))],[(100011,.box [.d (.int .u64 d)]),(5,.box (((eK n).take i++List.replicate (8-i) 0).map λc=> .d (.int .u8 c)))]⟩,
   λi=>i<=8,λi=>8-i,⟨0,by omega,(aq.keep ⟨ae,ae,ae,ae,ae,ae,ae,trivial⟩ ⟨ae,ae,trivial⟩)⟩,?_⟩
  intro i hi;rcases i with _|_|_|_|_|_|_|_|_|i
  case succ.succ.succ.succ.succ.succ.succ.succ.succ=>omega
  all_goals conv=>whnf
  all_goals try (refine⟨by decide,by decide,?_⟩;conv=>whnf)
  .exact⟨1,by decide,by decide,aq.keep ⟨ae,ae,ae,ae,ae,ae,ae,trivial⟩ ⟨ae,⟨by kernel_rfl,rfl⟩,trivial⟩⟩
  .exact⟨2,by decide,by decide,aq.keep ⟨ae,ae,ae,ae,ae,ae,ae,trivial⟩ ⟨ae,⟨by kernel_rfl,rfl⟩,trivial⟩⟩
  .exact⟨3,by decide,by decide,aq.keep ⟨ae,ae,ae,ae,ae,ae,ae,trivial⟩ ⟨ae,⟨by kernel_rfl,rfl⟩,trivial⟩⟩
  .exact⟨4,by decide,by decide,aq.keep ⟨ae,ae,ae,ae,ae,ae,ae,trivial⟩ ⟨ae,⟨by kernel_rfl,rfl⟩,trivial⟩⟩
  .exact⟨5,by decide,by decide,aq.keep ⟨ae,ae,ae,ae,ae,ae,ae,trivial⟩ ⟨ae,⟨by kernel_rfl,rfl⟩,trivial⟩⟩
  .exact⟨6,by decide,by decide,aq.keep ⟨ae,ae,ae,ae,ae,ae,ae,trivial⟩ ⟨ae,⟨by kernel_rfl,rfl⟩,trivial⟩⟩
  .exact⟨7,by decide,by decide,aq.keep ⟨ae,ae,ae,ae,ae,ae,ae,trivial⟩ ⟨ae,⟨by kernel_rfl,rfl⟩,trivial⟩⟩
  .exact⟨8,by decide,by decide,aq.keep ⟨ae,ae,ae,ae,ae,ae,ae,trivial⟩ ⟨ae,⟨by kernel_rfl,rfl⟩,trivial⟩⟩
  .refine⟨_,_,xc d (eK n) (by simp[eK]),?_⟩;conv=>whnf
   exact⟨(k+1,lL d (eK n)),⟨hA,hc⟩,by(show l.length-(k+1)<l.length-k;omega),aq.keep ⟨ae,ae,ae,⟨ax (by omega),rfl⟩,trivial⟩ ⟨ae,trivial⟩⟩
 .obtain rfl:k=l.length:=by simp at h1;omega
  rw[List.drop_length,pQ]at hc;exact .inl ⟨[],(aq.keep trivial ⟨⟨by rw[<- hc];rfl,rfl⟩,trivial⟩),rfl⟩
theorem Uy(set:List Int)(ah:Bs)(n m since aN:Int)(h1:set.length<=10000000)(h2:ah.length<=1000000):NQ.Fn cxG 97 [.slice 1 (set.map gP),.str ah,.agg (US n m),.int .i64 since,.int .i64 aN] (.d (.int .u64 (Rl set ah n m since aN))) []:=by
 refine jo (pv:=pv0) ?_;refine bt [100011] (fun|3=>[55555]|5=>[33333]|6=>[33333,55555]|_=>[]) tyG NJ Tryz.func97 ?_;have key:∀x1 x2 x3 x4:Int,x1=lL 14695981039346656037 set->x2=lL x1 [IntKind.u8.wrap (ah.length:Int)]->x3=lL x2 (sH ah)->x4=pQ x3 [n,m,since,aN]->Rl set ah n m since aN=x4:=by
  rintro _ _ _ _ rfl rfl rfl rfl;rfl
 obtain⟨x1,e1⟩:∃x,x=lL 14695981039346656037 set:=⟨_,rfl⟩
 obtain⟨x2,e2⟩:∃x,x=lL x1 [IntKind.u8.wrap (ah.length:Int)]:=⟨_,rfl⟩
 obtain⟨x3,e3⟩:∃x,x=lL x2 (sH ah):=⟨_,rfl⟩
 obtain⟨x4,e4⟩:∃x,x=pQ x3 [n,m,since,aN]:=⟨_,rfl⟩
 rw[key x1 x2 x3 x4 e1 e2 e3 e4];have f1:=xc 14695981039346656037 set (by omega);rw[<- e1]at f1;have f2:=xc x1 [IntKind.u8.wrap (ah.length:Int)] (by simp);rw[<- e2]at f2;have f3:=xc x2 (sH ah) (by rw[sH,aA];omega);rw[<- e3, <- Dj]at f3;have f4:=Rk x3 [n,m,since,aN] (by simp);rw[<- e4]at f4;clear key e1 e2 e3 e4;conv=>whnf
 refine⟨_,aq.name 11 100011 rfl rfl,?_⟩;conv=>whnf
 refine⟨_,_,f1,?_⟩;conv=>whnf
 refine⟨_,_,f2,?_⟩;conv=>whnf
 refine⟨_,_,f3,?_⟩;conv=>whnf
 refine⟨_,aq.keep (sl:=[(3,.d (.int .i64 since)),(4,.d (.int .i64 aN)),(7,.ptr 7 0),(11,.ptr 100011 0),(12,.fn 161 [] [.ptr 100011 0])]) (h:=[(7,.box [.d (.int .i64 n),.d (.int .i64 m)]),(100011,.box [.d (.int .u64 x3)])]) ⟨⟨rfl,rfl⟩,⟨rfl,rfl⟩,⟨rfl,rfl⟩,⟨rfl,rfl⟩,⟨rfl,rfl⟩,trivial⟩ ⟨⟨rfl,rfl⟩,⟨rfl,rfl⟩,trivial⟩,?_⟩;conv=>whnf
 refine⟨[7],_,f4,⟨rfl,rfl,rfl⟩,?_⟩;conv=>whnf
 refine aL ?_;conv=>whnf
 exact .inl ⟨[(10,.d (.int .u64 x4))],aq.keep ⟨ae,trivial⟩ trivial,rfl⟩
def gF(t:Bs):List Int:=IntKind.u8.wrap (t.length:Int)::sH t
def Ks(d:Datum):List Int:=gF d.text++eK d.n++eK d.m
def gC:List Datum->List Int
 |[]=>[]
 |d::t=>Ks d++gC t
def setBytes(s:cG):List Int:=gF s.name++eK s.type++eK s.aP++[IntKind.u8.wrap (s.data.length:Int)]++gC s.data
theorem uO(s:Bs):(sH s).length=s.length:=by simp[sH]
theorem qO(n:Int):(eK n).length=8:=by simp[eK]
theorem Fa(d:Datum):(Ks d).length=d.text.length+17:=by simp[Ks,gF,uO,qO]
theorem CD:∀a b:List Datum,gC (a++b)=gC a++gC b
 |[],b=>rfl
 |d::t,b=>by simp[gC,CD t b]
theorem vC:∀(l:List Datum) (_:∀d∈l,d.text.length<=100000),(gC l).length<=l.length*100017
 |[],_=>by simp[gC]
 |d::t,h=>by
  have h1:=vC t λd hd=>h d (bC _ hd)
  have h2:=h d (List.mem_cons_self ..);simp only[gC,List.length_append,Fa,List.length_cons];omega
noncomputable def cxY:Cx:={cx with chg:=gX [(159,9),(160,9)],bld:=[9,16,27]}
theorem tyY:bD cxY:=bo
theorem Aw:cxY.P.follows .mixedOrders=true:=mixed
abbrev mV(l:List Int):Blk:= .row 5 1 (l.map gP)
theorem xQ(l:List Int)(t:Bs)(hl:l.length<=10000000000000)(ht:t.length<=1000000000):FnP cxY pv0 159 [.own 90050,.d (.str t)] [(90050,mV l)] (some (.own 90050,[(90050,mV (l++gF t))])):=by
 refine bt [] (fun|2=>[33333]|_=>[]) tyY Aw Tryz.func159 ?_;conv=>whnf
 refine⟨by(show(l.map gP).length+1<=_;rw[aA];omega),by(show((l.map gP).length+1)*1<=_;rw[aA];omega),?_⟩;conv=>whnf
 refine⟨by(show(l.map gP++_).length+t.length<=_;rw[List.length_append,aA];show l.length+1+t.length<=_;omega),?_⟩;conv=>whnf
 refine .inl ⟨[(4,.own 90050)],aq.keep ⟨ae,trivial⟩ ⟨⟨?_,rfl⟩,trivial⟩,rfl⟩;show some (Blk.row _ _ (l.map gP++[[_]]++eC t))=some (Blk.row _ _ _)
 rw[Dj,gF,List.map_append,List.append_assoc];rfl
theorem pN(l:List Int)(n:Int)(hl:l.length<=10000000000000):FnP cxY pv0 160 [.own 90050,.d (.int .i64 n)] [(90050,mV l)] (some (.own 90050,[(90050,mV (l++eK n))])):=by
 refine bt [] (fun|_=>[]) tyY Aw Tryz.func160 ?_;conv=>whnf
 refine⟨Nat,λi=>⟨[(0,.own 90050),(1,.d (.int .i64 n)),(5,.d (.int .i64 (56-8*(i:Int))))],[(90050,mV (l++(eK n).take i))]⟩,λi=>i<=8,λi=>8-i,⟨0,by omega,aq.keep ⟨ae,ae,ae,trivial⟩ ⟨⟨by(show some (Blk.row _ _ _)=some (Blk.row _ _ _);rw[List.take_zero,List.append_nil]),rfl⟩,trivial⟩⟩,?_⟩;intro i hi;have step:∀i,i<8->(l++(eK n).take i).map gP++[[D.int .u8 (IntKind.u8.wrap ((IntKind.u64.wrap n).fdiv (2 ^ (56-8*i))))]]=(l++(eK n).take (i+1)).map gP:=λi hi=>by
  have h:(eK n)[i]? =some (IntKind.u8.wrap ((IntKind.u64.wrap n).fdiv (2 ^ (56-8*i)))):=by simp[eK,hi]
  rw[List.take_add_one,h];simp[gP]
 have hlen:∀i,i<8->((l++(eK n).take i).map gP).length+1<=10000000000100:=λi hi=>by
  rw[aA,List.length_append,List.length_take];omega
 have h8:(eK n).take 8=eK n:=List.take_of_length_le (by simp[eK]);rcases i with _|_|_|_|_|_|_|_|_|i
 case succ.succ.succ.succ.succ.succ.succ.succ.succ=>omega
 all_goals conv=>whnf
 .refine⟨Nat.le_trans (hlen 0 (by omega)) (by decide),(Nat.mul_one _).symm ▸ Nat.le_trans (hlen 0 (by omega)) (by decide),?_⟩;conv=>whnf
  exact⟨1,by decide,by decide,aq.keep ⟨ae,ae,ae,trivial⟩ ⟨⟨congrArg (λr=>some (Blk.row 5 1 r)) (step 0 (by omega)),rfl⟩,trivial⟩⟩
 .refine⟨Nat.le_trans (hlen 1 (by omega)) (by decide),(Nat.mul_one _).symm ▸ Nat.le_trans (hlen 1 (by omega)) (by decide),?_⟩;conv=>whnf
  exact⟨2,by decide,by decide,aq.keep ⟨ae,ae,ae,trivial⟩ ⟨⟨congrArg (λr=>some (Blk.row 5 1 r)) (step 1 (by omega)),rfl⟩,trivial⟩⟩
 .refine⟨Nat.le_trans (hlen 2 (by omega)) (by decide),(Nat.mul_one _).symm ▸ Nat.le_trans (hlen 2 (by omega)) (by decide),?_⟩;conv=>whnf
  exact⟨3,by decide,by decide,aq.keep ⟨ae,ae,ae,trivial⟩ ⟨⟨congrArg (λr=>some (Blk.row 5 1 r)) (step 2 (by omega)),rfl⟩,trivial⟩⟩
 .refine⟨Nat.le_trans (hlen 3 (by omega)) (by decide),(Nat.mul_one _).symm ▸ Nat.le_trans (hlen 3 (by omega)) (by decide),?_⟩;conv=>whnf
  exact⟨4,by decide,by decide,aq.keep ⟨ae,ae,ae,trivial⟩ ⟨⟨congrArg (λr=>some (Blk.row 5 1 r)) (step 3 (by omega)),rfl⟩,trivial⟩⟩
 .refine⟨Nat.le_trans (hlen 4 (by omega)) (by decide),(Nat.mul_one _).symm ▸ Nat.le_trans (hlen 4 (by omega)) (by decide),?_⟩;conv=>whnf
  exact⟨5,by decide,by decide,aq.keep ⟨ae,ae,ae,trivial⟩ ⟨⟨congrArg (λr=>some (Blk.row 5 1 r)) (step 4 (by omega)),rfl⟩,trivial⟩⟩
 .refine⟨Nat.le_trans (hlen 5 (by omega)) (by decide),(Nat.mul_one _).symm ▸ Nat.le_trans (hlen 5 (by omega)) (by decide),?_⟩;conv=>whnf
  exact⟨6,by decide,by decide,aq.keep ⟨ae,ae,ae,trivial⟩ ⟨⟨congrArg (λr=>some (Blk.row 5 1 r)) (step 5 (by omega)),rfl⟩,trivial⟩⟩
 .refine⟨Nat.le_trans (hlen 6 (by omega)) (by decide),(Nat.mul_one _).symm ▸ Nat.le_trans (hlen 6 (by omega)) (by decide),?_⟩;conv=>whnf
  exact⟨7,by decide,by decide,aq.keep ⟨ae,ae,ae,trivial⟩ ⟨⟨congrArg (λr=>some (Blk.row 5 1 r)) (step 6 (by omega)),rfl⟩,trivial⟩⟩
 .refine⟨Nat.le_trans (hlen 7 (by omega)) (by decide),(Nat.mul_one _).symm ▸ Nat.le_trans (hlen 7 (by omega)) (by decide),?_⟩;conv=>whnf
  exact⟨8,by decide,by decide,aq.keep ⟨ae,ae,ae,trivial⟩ ⟨⟨congrArg (λr=>some (Blk.row 5 1 r)) (step 7 (by omega)),rfl⟩,trivial⟩⟩
 .refine .inl ⟨[(4,.own 90050)],aq.keep ⟨ae,trivial⟩ ⟨⟨?_,rfl⟩,trivial⟩,rfl⟩;show some (Blk.row _ _ ((l++(eK n).take 8).map gP))=some (Blk.row _ _ _)
  rw[h8]
theorem ME(s:cG)(hv:ee s=true)(h1:s.name.length<=100000)(h2:∀d∈s.data,d.text.length<=100000)(h3:s.data.length<=10000) :
 FnP cxY pv0 96 [.agg ((cg s).map .d)] [] (some (.tuple [.own 90050,.d (.int .i64 0)],[(90050,mV (setBytes s))])):=by
 refine bt [] (fun|4=>[33333,55555]|5=>[33333,55555]|6=>[33333,55555]|7=>[55555]|11=>[33333]|12=>[33333,55555]|13=>[33333,55555]|_=>[]) tyY Aw Tryz.func96 ?_;conv=>whnf
 (refine⟨_,_,jI s,?_⟩;conv=>whnf)
 rw[hv];conv=>whnf
 have hb:=vC s.data h2;have l1:(gF s.name).length<=100001:=by rw[gF,List.length_cons,uO];omega
 have l2:(gF s.name++eK s.type).length<=100010:=by rw[List.length_append,qO];omega
 have l3:(gF s.name++eK s.type++eK s.aP).length<=100020:=by rw[List.length_append,qO];omega
 have lk:∀k,(gF s.name++eK s.type++eK s.aP++[IntKind.u8.wrap (s.data.length:Int)]++gC (s.data.take k)).length<=2000000000:=λk=>by
  have h4:=vC (s.data.take k) λd hd=>h2 d (List.mem_of_mem_take hd)
  have h5:(s.data.take k).length<=s.data.length:=by rw[List.length_take];omega
  have h6:(s.data.take k).length*100017<=s.data.length*100017:=Nat.mul_le_mul_right _ h5;simp only[List.length_append,List.length_singleton]at l3 ⊢;omega
 refine⟨_,(aq.jV 4 90050 1 5 1 rfl rfl (by decide)).trans (aq.keep (sl:=[(1,.ptr 1 0),(4,.own 90050)]) (h:=[(1,.box ((cg s).map .d)),(90050,mV [])]) ⟨⟨rfl,rfl⟩,⟨rfl,rfl⟩,trivial⟩ ⟨⟨rfl,rfl⟩,⟨rfl,rfl⟩,trivial⟩),?_⟩;conv=>whnf
 refine⟨[1],_,xQ [] s.name (by simp) (by omega),⟨rfl,rfl,rfl⟩,?_⟩;conv=>whnf
 refine aL ?_;conv=>whnf
 refine⟨_,aq.keep (sl:=[(1,.ptr 1 0),(4,.own 90050)]) (h:=[(1,.box ((cg s).map .d)),(90050,mV _)]) ⟨⟨rfl,rfl⟩,⟨rfl,rfl⟩,trivial⟩ ⟨⟨rfl,rfl⟩,⟨rfl,rfl⟩,trivial⟩,?_⟩;conv=>whnf
 refine⟨[1],_,pN (gF s.name) s.type (by omega),⟨rfl,rfl,rfl⟩,?_⟩;conv=>whnf
 refine aL ?_;conv=>whnf
 refine⟨_,aq.keep (sl:=[(1,.ptr 1 0),(4,.own 90050)]) (h:=[(1,.box ((cg s).map .d)),(90050,mV _)]) ⟨⟨rfl,rfl⟩,⟨rfl,rfl⟩,trivial⟩ ⟨⟨rfl,rfl⟩,⟨rfl,rfl⟩,trivial⟩,?_⟩;conv=>whnf
 refine⟨[1],_,pN (gF s.name++eK s.type) s.aP (by omega),⟨rfl,rfl,rfl⟩,?_⟩;conv=>whnf
 refine aL ?_;conv=>whnf
 refine⟨_,aq.keep (sl:=[(1,.ptr 1 0),(4,.own 90050)]) (h:=[(1,.box ((cg s).map .d)),(90050,mV (gF s.name++eK s.type++eK s.aP))]) ⟨⟨rfl,rfl⟩,⟨rfl,rfl⟩,trivial⟩ ⟨⟨rfl,rfl⟩,⟨rfl,rfl⟩,trivial⟩,?_⟩;conv=>whnf
 refine⟨by(show(List.map gP _).length+1<=_;rw[aA];omega),by(show((List.map gP _).length+1)*1<=_;rw[aA];omega),?_⟩;conv=>whnf
 obtain⟨B,hB⟩:∃B,B=gF s.name++eK s.type++eK s.aP++[IntKind.u8.wrap (s.data.length:Int)]:=⟨_,rfl⟩
 rw[<- hB]at lk;refine⟨Nat,λk=>⟨[(1,.ptr 1 0),(4,.own 90050),(30,.d (.slice 3 (s.data.map aQ))),(31,.d (.int .i64 (s.data.map aQ).length)),(32,.d (.int .i64 k))],[(1,.box ((cg s).map .d)),(90050,mV (B++gC (s.data.take k)))]⟩,
  λk=>k<=s.data.length,λk=>s.data.length-k,⟨0,by omega,aq.keep ⟨ae,ae,ae,ae,ae,trivial⟩ ⟨ae,⟨?_,rfl⟩,trivial⟩⟩,?_⟩
 .show some (Blk.row _ _ (List.map gP _++[[_]]))=some (Blk.row _ _ _)
  rw[hB,List.take_zero,gC,List.append_nil,aA,List.map_append (l₂:=[_])];rfl
 intro k hk;conv=>whnf
 refine aj (λh1=>?_) (λh1=>?_) <;> (rw[h1];conv=>whnf)
 .have hA:k<s.data.length:=by simp at h1;omega
  obtain⟨d,hV⟩:∃d,s.data[k]? =some d:=⟨_,au hA⟩
  have xh:=h2 d (aD hV);have xi:=lk k;refine⟨aC k,aQ d,aM hV,?_⟩;conv=>whnf
  have tl:(gF d.text).length<=100001:=by rw[gF,List.length_cons,uO];omega
  have e1:(B++gC (s.data.take k)++gF d.text).length<=3000000000:=by rw[List.length_append];omega
  have e2:(B++gC (s.data.take k)++gF d.text++eK d.n).length<=3000000010:=by rw[List.length_append,qO];omega
  refine⟨[1,6],_,xQ (B++gC (s.data.take k)) d.text (by omega) (by omega),⟨rfl,rfl,rfl⟩,?_⟩;conv=>whnf
  refine aL ?_;conv=>whnf
  refine⟨_,aq.keep (sl:=[(1,.ptr 1 0),(4,.own 90050),(6,.ptr 6 0),(30,.d (.slice 3 (s.data.map aQ))),(31,.d (.int .i64 (s.data.map aQ).length)),(32,.d (.int .i64 k))]) (h:=[(1,.box ((cg s).map .d)),(6,.box ((aQ d).map .d)),(90050,mV _)]) ⟨⟨rfl,rfl⟩,⟨rfl,rfl⟩,⟨rfl,rfl⟩,⟨rfl,rfl⟩,⟨rfl,rfl⟩,⟨rfl,rfl⟩,trivial⟩ ⟨⟨rfl,rfl⟩,⟨rfl,rfl⟩,⟨rfl,rfl⟩,trivial⟩,?_⟩;conv=>whnf
  refine⟨[1,6],_,pN (B++gC (s.data.take k)++gF d.text) d.n (by omega),⟨rfl,rfl,rfl⟩,?_⟩;conv=>whnf
  refine aL ?_;conv=>whnf
  refine⟨_,aq.keep (sl:=[(1,.ptr 1 0),(4,.own 90050),(6,.ptr 6 0),(30,.d (.slice 3 (s.data.map aQ))),(31,.d (.int .i64 (s.data.map aQ).length)),(32,.d (.int .i64 k))]) (h:=[(1,.box ((cg s).map .d)),(6,.box ((aQ d).map .d)),(90050,mV _)]) ⟨⟨rfl,rfl⟩,⟨rfl,rfl⟩,⟨rfl,rfl⟩,⟨rfl,rfl⟩,⟨rfl,rfl⟩,⟨rfl,rfl⟩,trivial⟩ ⟨⟨rfl,rfl⟩,⟨rfl,rfl⟩,⟨rfl,rfl⟩,trivial⟩,?_⟩;conv=>whnf
  refine⟨[1,6],_,pN (B++gC (s.data.take k)++gF d.text++eK d.n) d.m (by omega),⟨rfl,rfl,rfl⟩,?_⟩;conv=>whnf
  refine aL ?_;conv=>whnf
  refine⟨k+1,hA,by(show s.data.length-(k+1)<s.data.length-k;omega),aq.keep ⟨ae,ae,ae,ae,⟨ax (by omega),rfl⟩,trivial⟩ ⟨ae,⟨congrArg (λr=>some (mV r)) ?_,rfl⟩,trivial⟩⟩;rw[bO hV,CD];simp[gC,Ks]
 .obtain rfl:k=s.data.length:=by simp at h1;omega
  refine .inl ⟨[(2,.own 90050),(3,.d (.int .i64 0))],aq.keep ⟨ae,ae,trivial⟩ ⟨⟨congrArg (λr=>some (mV r)) ?_,rfl⟩,trivial⟩,rfl⟩;rw[List.take_length,hB];rfl
theorem MD(s:cG)(hv:ee s=false):FnP cxY pv0 96 [.agg ((cg s).map .d)] [] (some (.tuple [.nil 1,.d (.int .i64 1)],[])):=by
 refine bt [] (fun|_=>[]) tyY Aw Tryz.func96 ?_;conv=>whnf
 (refine⟨_,_,jI s,?_⟩;conv=>whnf)
 rw[hv];conv=>whnf
 exact iQ rfl rfl rfl
structure cR where
 n:Int
 alg:Int
 deriving DecidableEq
def cd(k:cR):List D:=[.int .i64 k.n,.int .i64 k.alg]
def nN(k:cR):Bool:=decide (k.n>=1)&&(decide (k.n<=1000000)&&(decide (k.alg>=1)&&decide (k.alg<=3)))
def qj(a b:Int):Bool:=decide (a>=0)&&(decide (a<=b)&&decide (b<=20000000))
def xC(a:Int):Bool:=decide (a>=0)&&decide (a<65536)
def pJ(a:Int):Int×Int:=if xC a=true then((a+1).tmod 65536,0)else(0,1)
def cK(s:cG):List cR:=s.data.map λd=>⟨d.n,d.m⟩
def dv(s:cG):List cR×Int:=if ee s=true then(if s.type=7 then(cK s,0)else([],12))else([],1)
def xL:Sig:=⟨[],0,0,0,0,0⟩
def wG(s:cG)(ah:Bs)(k:cR)(a b:Int):Bool:=(nN k&&(qj a b&&(bq ah&& !lE ah)))&&(ee s&&(bK s.name ah).1)
def lr(s:cG)(ah:Bs)(k:cR)(a b:Int):Sig:=⟨ah,k.n,k.alg,a,b,Rl (setBytes s) ah k.n k.alg a b⟩
def lC(s:cG)(ah:Bs)(k:cR)(a b:Int):Sig×Int:=if wG s ah k a b=true then(lr s ah k a b,0)else(xL,1)
theorem AX{s:cG}(h:ee s=true):s.name.length<=60/\(∀d∈s.data,d.text.length<=60)/\s.data.length<=8:=by
 refine⟨fo (uH h),λd hd=>?_,mw h⟩;unfold ee at h;simp only[aU,aI]at h;obtain⟨i,hi,rfl⟩:=List.getElem_of_mem hd;have:=h.2 i (List.mem_range.2 hi);have h1:s.data[i-1]? =some s.data[i-1]:=au (by omega);rw[EZ (au hi) h1]at this;have hv:nY (tx s.type) s.data[i]=true:=by
  unfold vA at this;simp only[Bool.not_eq_true',Bool.or_eq_false_iff,Bool.not_eq_false']at this;exact this.1
 unfold nY at hv;simp only[aU]at hv;have ht:=hv.2;unfold wO at ht;split at ht
 .simp only[aU]at ht;exact fo ht.1
 .split at ht
  .exact fo ht
  .split at ht
   .unfold iN at ht;simp only[aU,decide_eq_true_eq]at ht;have:=ht.1.1.1.2;omega
   .have:=eq_of_beq ht;rw[this];simp
theorem LK(s:cG)(h:ee s=true):(setBytes s).length<=10000:=by
 obtain⟨h1,h2,h3⟩:=AX h;have:∀(l:List Datum) (_:∀d∈l,d.text.length<=60),(gC l).length<=l.length*77:=by
  intro l;induction l with
  |nil=>intro _;simp[gC]
  |cons d t ih =>
   intro h;have h1:=ih λd hd=>h d (bC _ hd)
   have h2:=h d (List.mem_cons_self ..);simp only[gC,List.length_append,Fa,List.length_cons];omega
 have h4:=this s.data h2;simp only[setBytes,List.length_append,gF,List.length_cons,uO,qO,List.length_nil];omega
theorem yw(k:cR):NQ.Fn cx 41 [.agg (cd k)] (.d (.bool (nN k))) []:=by
 refine aT bo mixed Tryz.func41 ?_;conv=>whnf
 repeat' (first
  |(refine aj (λh=>?_) (λh=>?_) <;> (rw[h];conv=>whnf))
  |(refine al rfl ?_;show AV.d (D.bool _)=_;simp only[nN, *, if_true,if_false,aY];done)
  |fail)
theorem yx(a b:Int):NQ.Fn cx 39 [.int .i64 a,.int .i64 b] (.d (.bool (qj a b))) []:=by
 refine aT bo mixed Tryz.func39 ?_;conv=>whnf
 repeat' (first
  |(refine aj (λh=>?_) (λh=>?_) <;> (rw[h];conv=>whnf))
  |(refine al rfl ?_;show AV.d (D.bool _)=_;simp only[qj, *, if_true,if_false,aY];done)
  |fail)
theorem Cq(a:Int):NQ.Fn cx 225 [.int .i64 a] (.d (.bool (xC a))) []:=by
 refine aT bo mixed Tryz.func225 ?_;conv=>whnf
 repeat' (first
  |(refine aj (λh=>?_) (λh=>?_) <;> (rw[h];conv=>whnf))
  |(refine al rfl ?_;show AV.d (D.bool _)=_;simp only[xC, *, if_true,if_false,aY];done)
  |fail)
theorem Eo(a:Int):NQ.Fn cx 186 [.int .i64 a] (.tuple [.d (.int .i64 (pJ a).1),.d (.int .i64 (pJ a).2)]) []:=by
 refine aT bo mixed Tryz.func186 ?_;conv=>whnf
 (refine⟨_,_,Cq a,?_⟩;conv=>whnf)
 cases h:xC a with
 |false =>
  conv=>whnf
  refine al rfl ?_;rw[pJ,if_neg (by rw[h];simp)];rfl
 |true =>
  conv=>whnf
  refine al rfl ?_;rw[pJ,if_pos h];have:IntKind.i64.wrap (a+1)=a+1:=wrap_i64 (by simp[xC]at h;omega) (by simp[xC]at h;omega);rw[this];rfl
theorem we(s:cG)(hl:s.data.length<=100000):NQ.Fn cx 38 [.agg (cg s)] (.d (.slice 2 ((cK s).map cd))) []:=by
 refine aT bo mixed Tryz.func38 ?_;conv=>whnf
 refine⟨by omega,.inl rfl,by omega,by(simp only[aA];omega),by(simp only[aA];omega),?_⟩;conv=>whnf
 refine ⟨Nat, fun k => ⟨[(1, .ptr 1 0), (3, .own 9), (11, .d (.slice 3 (s.data.map aQ))), (12, .d (.int .i64 ((s.data.map aQ).length : Int))), (13, .d (.int .i64 k))],
     [(1,.box ((cg s).map .d)),(9,.row 31 2 (((cK s).take k++List.replicate (s.data.length-k) (⟨0,0⟩:cR)).map cd) true)]⟩,
  λk=>k<=s.data.length,λk=>s.data.length-k,⟨0,by omega,aK.keep ⟨ae,ae,ae,ae,ae,trivial⟩ ⟨ae,⟨by(show some (Blk.row _ _ (List.replicate ((s.data.map aQ).length:Int).toNat _) true)=some (Blk.row _ _ _ true);simp[cd];done),rfl⟩,trivial⟩⟩,λk hk=>?_⟩
 conv=>whnf
 refine aj (λh1=>?_) (λh1=>?_) <;> (rw[h1];conv=>whnf)
 .have hA:k<s.data.length:=by simp at h1;omega
  obtain⟨d,hV⟩:∃d,s.data[k]? =some d:=⟨_,au hA⟩
  refine⟨aC k,aQ d,aM hV,?_⟩;conv=>whnf
  have kQ:(cK s)[k]? =some ⟨d.n,d.m⟩:=by rw[cK,bc,hV];rfl
  refine⟨aC k,by(simp[cK];omega),?_⟩;conv=>whnf
  have kd:(((cK s).take k++List.replicate (s.data.length-k) (⟨0,0⟩:cR)).map cd)[k]? =some (cd ⟨0,0⟩):=by
   rw[bc,cL (by simp[cK];omega),List.getElem?_replicate,if_pos (by simp[cK];omega)];rfl
  refine⟨_,kd,?_⟩;conv=>whnf
  refine⟨k+1,hA,by(show s.data.length-(k+1)<s.data.length-k;omega),aK.keep ⟨ae,ae,ae,ae,⟨ax (by omega),rfl⟩,trivial⟩ ⟨ae,⟨?_,rfl⟩,trivial⟩⟩;show some (Blk.row _ _ (List.set _ k (cd ⟨d.n,d.m⟩)) true)=some (Blk.row _ _ _ true)
  rw[<- List.map_set,JK kQ (by simp[cK])]
 .obtain rfl:k=s.data.length:=by simp at h1;omega
  refine al rfl ?_;rw[List.take_of_length_le (by simp[cK]),Nat.sub_self,List.replicate_zero,List.append_nil];rfl
theorem wK(s:cG):NQ.Fn cx 14 [.agg (cg s)] (.tuple [.d (.slice 2 ((dv s).1.map cd)),.d (.int .i64 (dv s).2)]) []:=by
 refine aT bo mixed Tryz.func14 ?_;conv=>whnf
 (refine⟨_,_,jI s,?_⟩;conv=>whnf)
 cases hv:ee s with
 |false =>
  conv=>whnf
  refine al rfl ?_;rw[dv,if_neg (by rw[hv];simp)];rfl
 |true =>
  conv=>whnf
  refine aj (λh1=>?_) (λh1=>?_) <;> (rw[h1];conv=>whnf)
  .refine al rfl ?_;rw[dv,if_pos hv,if_neg (by simpa using h1)];rfl
  . (refine⟨_,_,we s (by have:=mw hv;omega),?_⟩;conv=>whnf)
    refine al rfl ?_;rw[dv,if_pos hv,if_pos (by simpa using h1)];rfl
noncomputable def PE:Cx:={cx with chg:=gX [(96,9)]}
theorem Vq:bD PE:=bo
theorem SZ:PE.P.follows .mixedOrders=true:=mixed
theorem JL(s:cG)(ah:Bs)(k:cR)(a b:Int):NQ.Fn cx 47 [.agg (cg s),.str ah,.agg (cd k),.int .i64 a,.int .i64 b] (.tuple [.agg ((gK (lC s ah k a b).1).map .d),.d (.int .i64 (lC s ah k a b).2)]) []:=by
 refine jo (pv:=pv0) (cx:=PE) ?_;refine bt [] (fun|3=>[33333]|9=>[90050]|_=>[]) Vq SZ Tryz.func47 ?_;have bad:wG s ah k a b=false->lC s ah k a b=(xL,1):=λh=>by rw[lC,if_neg (by rw[h];simp)]
 have hP:wG s ah k a b=((nN k&&(qj a b&&(bq ah&& !lE ah)))&&(ee s&&(bK s.name ah).1)):=rfl;conv=>whnf
 (refine⟨_,_,yw k,?_⟩;conv=>whnf)
 obtain⟨q1,hL⟩:∃q,nN k=q:=⟨_,rfl⟩
 rw[hL]at hP ⊢;cases q1 with
 |false =>
  conv=>whnf
  exact iQ rfl rfl (by rw[bad hP];rfl)
 |true =>
 conv=>whnf
 (refine⟨_,_,yx a b,?_⟩;conv=>whnf)
 obtain⟨q1,hL⟩:∃q,qj a b=q:=⟨_,rfl⟩
 rw[hL]at hP ⊢;cases q1 with
 |false =>
  conv=>whnf
  exact iQ rfl rfl (by rw[bad hP];rfl)
 |true =>
 conv=>whnf
 (refine⟨_,_,mU ah,?_⟩;conv=>whnf)
 obtain⟨q1,kM⟩:∃q,bq ah=q:=⟨_,rfl⟩
 rw[kM]at hP ⊢;cases q1 with
 |false =>
  conv=>whnf
  exact iQ rfl rfl (by rw[bad hP];rfl)
 |true =>
 conv=>whnf
 (refine⟨_,_,JN ah,?_⟩;conv=>whnf)
 obtain⟨q1,hL⟩:∃q,lE ah=q:=⟨_,rfl⟩
 rw[hL]at hP ⊢;cases q1 with
 |true =>
  conv=>whnf
  exact iQ rfl rfl (by rw[bad hP];rfl)
 |false =>
 conv=>whnf
 obtain⟨q1,kc⟩:∃q,ee s=q:=⟨_,rfl⟩
 cases q1 with
 |false =>
  refine⟨[5,7,10],_,MD s kc,⟨rfl,rfl,rfl⟩,?_⟩;conv=>whnf
  refine aL ?_;conv=>whnf
  exact iQ rfl rfl (by rw[bad (by rw[hP,kc];rfl)];rfl)
 |true =>
 obtain⟨t1,t2,t3⟩:=AX kc;refine⟨[5,7,10],_,ME s kc (by omega) (λd hd=>by have:=t2 d hd;omega) (by omega),⟨rfl,rfl,rfl⟩,?_⟩;conv=>whnf
 refine aL ?_;conv=>whnf
 (refine⟨_,_,od s.name ah,?_⟩;conv=>whnf)
 obtain⟨q1,ku⟩:∃q,(bK s.name ah).1=q:=⟨_,rfl⟩
 rw[ku]at ⊢;cases q1 with
 |false =>
  conv=>whnf
  exact iQ rfl rfl (by rw[bad (by rw[hP,kc,ku];rfl)];rfl)
 |true =>
 conv=>whnf
 have hM:lC s ah k a b=(lr s ah k a b,0):=by rw[lC,if_pos (by rw[hP,kc,ku];rfl)]
 have fS:=Uy (setBytes s) ah k.n k.alg a b (by have:=LK s kc;omega) (by have:=fo kM;omega)
 repeat' (first
  |(refine bV ?_;conv=>whnf)
  |(refine⟨_,_,fS,?_⟩;conv=>whnf)
  |exact iQ rfl rfl (by rw[hM];rfl)
  |fail)
def pB(af:Bs)(s:Signed):Bool:=(s.set.type==2)&&(s.set.name != af)
def mE(af:Bs)(l:List Signed):List (Bs×D):=l.foldl (λm s=>if pB af s=true then cM s.set.name (.bool true) m else m) []
def gI(af:Bs)(l:List Signed)(n:Bs):Bool:=l.any λs=>pB af s&&(s.set.name==n)
theorem CB(af:Bs)(l:List Signed)(s:Signed):mE af (l++[s])=if pB af s=true then cM s.set.name (.bool true) (mE af l)else mE af l:=by
 unfold mE;rw[List.foldl_append];rfl
theorem Tq{α:Type}{p:List α->Prop}(h0:p [])(h1:∀l x,p l->p (l++[x])):∀l,p l:=λl=>by
 have:∀n (l:List α),l.length=n->p l:=by
  intro n;induction n with
  |zero=>intro l hl;rw[List.eq_nil_of_length_eq_zero hl];exact h0
  |succ n ih =>
   intro l hl;have kj:l≠[]:=λe=>by rw[e]at hl;cases hl
   rw[<- List.dropLast_concat_getLast kj];exact h1 _ _ (ih _ (by rw[List.length_dropLast];omega))
 exact this _ l rfl
theorem MO(af n:Bs)(l:List Signed):bG n (mE af l)=if gI af l n=true then some (.bool true)else none:=by
 induction l using Tq with
 |h0=>rfl
 |h1 l s ih =>
  rw[CB];have e:gI af (l++[s]) n=(gI af l n||(pB af s&&(s.set.name==n))):=by simp[gI]
  rw[e];by_cases h:pB af s=true
  .rw[if_pos h,qg,ih,h];by_cases h2:s.set.name=n
   .rw[if_pos h2.symm];simp[h2]
   .rw[if_neg (λe=>h2 e.symm)];have:(s.set.name==n)=false:=by simpa using h2
    rw[this];simp
  .rw[if_neg h,ih];have h:pB af s=false:=by simpa using h
   rw[h];simp
def gy(hX:Bs->Bool)(cut:Bs)(s:Signed):Bs:=if hX s.set.name=true then s.set.name else if (!(cut==[]))=true then(if (bK s.set.name cut).1=true then cut else[])else cut
def sA(cut:Bs)(s:Signed):Bool:=(cut==[])||((s.set.type != 2)&&(s.set.type != 1))
def lB(hX:Bs->Bool):Bs->List Signed->List Bool
 |_,[]=>[]
 |cut,s::t=>sA (gy hX cut s) s::lB hX (gy hX cut s) t
def lU(z:aO):List Bool:=lB (gI z.af z.ak) [] z.ak
theorem rQ(hX:Bs->Bool):∀(cut:Bs) (l:List Signed),(lB hX cut l).length=l.length
 |_,[]=>rfl
 |cut,s::t=>by simp[lB,rQ hX _ t]
theorem JJ{α:Type}(acc:List α)(x y:α){k n:Nat}(h:acc.length=k)(hn:k<n):(acc++List.replicate (n-k) x).set k y=(acc++[y])++List.replicate (n-(k+1)) x:=by
 rw[List.set_append_right _ _ (by omega),h,Nat.sub_self,show n-k=(n-(k+1))+1 by omega,List.replicate_succ,List.set_cons_zero,List.append_assoc];rfl
theorem Lj(z:aO)(hl:z.ak.length<=100000):NQ.Fn cx 45 [.agg (aX z)] (.d (.slice 1 ((lU z).map kg))) []:=by
 refine aT bo mixed Tryz.func45 ?_;conv=>whnf
 refine⟨Nat,λk=>⟨[(1,.ptr 1 0),(3,.omap 12),(14,.d (.slice 5 (z.ak.map aw))),(15,.d (.int .i64 ((z.ak.map aw).length:Int))),(16,.d (.int .i64 k))],[(1,.box ((aX z).map .d)),(12,.smap (mE z.af (z.ak.take k)))]⟩,
  λk=>k<=z.ak.length,λk=>z.ak.length-k,⟨0,by omega,aK.keep ⟨ae,ae,ae,ae,ae,trivial⟩ ⟨ae,ae,trivial⟩⟩,λk hk=>?_⟩
 conv=>whnf
 refine aj (λh1=>?_) (λh1=>?_) <;> (rw[h1];conv=>whnf)
 .have hA:k<z.ak.length:=by simp at h1;omega
  obtain⟨s,hQ⟩:∃s,z.ak[k]? =some s:=⟨_,au hA⟩
  refine⟨aC k,aw s,aM hQ,?_⟩;conv=>whnf
  have hm:mE z.af (z.ak.take (k+1))=if pB z.af s=true then cM s.set.name (.bool true) (mE z.af (z.ak.take k))else mE z.af (z.ak.take k):=by rw[bO hQ,CB]
  have again:∀st,aK cx st ⟨[(1,.ptr 1 0),(3,.omap 12),(14,.d (.slice 5 (z.ak.map aw))),(15,.d (.int .i64 ((z.ak.map aw).length:Int))),(16,.d (.int .i64 ((k+1:Nat):Int)))],[(1,.box ((aX z).map .d)),(12,.smap (mE z.af (z.ak.take (k+1))))]⟩ ->
   ∃y:Nat,y<=z.ak.length/\z.ak.length-y<z.ak.length-k/\aK cx st ⟨[(1,.ptr 1 0),(3,.omap 12),(14,.d (.slice 5 (z.ak.map aw))),(15,.d (.int .i64 ((z.ak.map aw).length:Int))),(16,.d (.int .i64 y))],[(1,.box ((aX z).map .d)),(12,.smap (mE z.af (z.ak.take y)))]⟩:=λst hw=>⟨k+1,hA,by omega,hw⟩
  rw[hm]at again
  (refine aj (λh=>?_) (λh=>?_) <;> (rw[h];conv=>whnf))
  .have kL:=h
   (refine aj (λh=>?_) (λh=>?_) <;> (rw[h];conv=>whnf))
   .rw[if_pos (by rw[pB,kL];exact h)]at again;exact again _ (aK.keep ⟨ae,ae,ae,ae,⟨ax (by omega),rfl⟩,trivial⟩ ⟨ae,ae,trivial⟩)
   .rw[if_neg (by rw[pB,kL,iS];show ¬(!(s.set.name==z.af))=true;rw[h];simp)]at again;exact again _ (aK.keep ⟨ae,ae,ae,ae,⟨ax (by omega),rfl⟩,trivial⟩ ⟨ae,ae,trivial⟩)
  .rw[if_neg (by rw[pB];show ¬((s.set.type==2)&&_)=true;rw[show(s.set.type==2)=false from h];simp)]at again;exact again _ (aK.keep ⟨ae,ae,ae,ae,⟨ax (by omega),rfl⟩,trivial⟩ ⟨ae,ae,trivial⟩)
 .obtain rfl:k=z.ak.length:=by simp at h1;omega
  refine⟨by omega,.inl rfl,by omega,by(simp only[aA];omega),by(simp only[aA];omega),?_⟩;conv=>whnf
  refine⟨(Nat×Bs)×List Bool,λx=>⟨[(3,.omap 12),(6,.own 40),(7,.d (.str x.1.2)),(42,.d (.slice 5 (z.ak.map aw))),(43,.d (.int .i64 ((z.ak.map aw).length:Int))),(44,.d (.int .i64 x.1.1))],[(1,.box ((aX z).map .d)),(12,.smap (mE z.af z.ak)),(40,.row 4 1 ((x.2++List.replicate (z.ak.length-x.1.1) false).map kg) true)]⟩,
   λx=>x.1.1<=z.ak.length/\x.2.length=x.1.1/\x.2++lB (gI z.af z.ak) x.1.2 (z.ak.drop x.1.1)=lU z,λx=>z.ak.length-x.1.1,
   ⟨((0,[]),[]),⟨Nat.zero_le _,rfl,rfl⟩,aK.keep ⟨ae,ae,ae,ae,ae,ae,trivial⟩ ⟨ae,⟨by(show some (Blk.smap (mE z.af (z.ak.take z.ak.length)))=some (Blk.smap _);rw[List.take_length]),rfl⟩,⟨by(show some (Blk.row _ _ (List.replicate ((z.ak.map aw).length:Int).toNat _) true)=some (Blk.row _ _ _ true);simp[kg];done),rfl⟩,trivial⟩⟩,?_⟩
  rintro⟨⟨k,cut⟩,acc⟩ ⟨hk,ha,hc⟩;simp only at hk ha hc;conv=>whnf
  refine aj (λh1=>?_) (λh1=>?_) <;> (rw[h1];conv=>whnf)
  .have hA:k<z.ak.length:=by simp at h1;omega
   obtain⟨s,hQ⟩:∃s,z.ak[k]? =some s:=⟨_,au hA⟩
   rw[drop_cons hQ,lB]at hc;refine⟨aC k,aw s,aM hQ,?_⟩;conv=>whnf
   obtain⟨r,hr⟩:∃r,bG s.set.name (mE z.af z.ak)=r:=⟨_,rfl⟩
   rw[hr];rw[MO]at hr;have again:∀c b,gy (gI z.af z.ak) cut s=c->sA c s=b-> ∀st,aK cx st ⟨[(3,.omap 12),(6,.own 40),(7,.d (.str c)),(42,.d (.slice 5 (z.ak.map aw))),(43,.d (.int .i64 ((z.ak.map aw).length:Int))),(44,.d (.int .i64 ((k+1:Nat):Int)))],[(1,.box ((aX z).map .d)),(12,.smap (mE z.af z.ak)),(40,.row 4 1 ((acc++[b]++List.replicate (z.ak.length-(k+1)) false).map kg) true)]⟩ ->
    ∃y:(Nat×Bs)×List Bool,(y.1.1<=z.ak.length/\y.2.length=y.1.1/\y.2++lB (gI z.af z.ak) y.1.2 (z.ak.drop y.1.1)=lU z)/\z.ak.length-y.1.1<z.ak.length-k/\aK cx st ⟨[(3,.omap 12),(6,.own 40),(7,.d (.str y.1.2)),(42,.d (.slice 5 (z.ak.map aw))),(43,.d (.int .i64 ((z.ak.map aw).length:Int))),(44,.d (.int .i64 y.1.1))],[(1,.box ((aX z).map .d)),(12,.smap (mE z.af z.ak)),(40,.row 4 1 ((y.2++List.replicate (z.ak.length-y.1.1) false).map kg) true)]⟩:=by
    rintro c b rfl rfl st hw;exact⟨((k+1,_),acc++[_]),⟨hA,by(simp;omega),by(rw[<- hc,List.append_assoc];rfl)⟩,by(show z.ak.length-(k+1)<z.ak.length-k;omega),hw⟩
   have kd:((acc++List.replicate (z.ak.length-k) false).map kg)[k]? =some [D.bool false]:=by
    rw[bc,cL (by omega),List.getElem?_replicate,if_pos (by omega)];rfl
   have km:k<((acc++List.replicate (z.ak.length-k) false).map kg).length:=by simp;omega
   have hI:∀b,some (Blk.row 4 1 (((acc++List.replicate (z.ak.length-k) false).map kg).set k [D.bool b]) true)=some (Blk.row 4 1 ((acc++[b]++List.replicate (z.ak.length-(k+1)) false).map kg) true):=λb=>by
    rw[show[D.bool b]=kg b from rfl, <- List.map_set,JJ acc false b ha hA]
   cases hcn:gI z.af z.ak s.set.name with
   |true =>
    rw[if_pos hcn]at hr;subst hr;have kS:gy (gI z.af z.ak) cut s=s.set.name:=by rw[gy,if_pos hcn]
    have again:=again s.set.name;conv=>whnf
    repeat' (first
     |(refine aj (λh=>?_) (λh=>?_) <;> (rw[h];conv=>whnf))
     |(refine⟨aC k,km,?_⟩;conv=>whnf)
     |(refine⟨_,kd,?_⟩;conv=>whnf)
     |exact again _ kS (by(simp only[sA, *, if_true,if_false,aY];done)) _ (aK.keep ⟨ae,ae,ae,ae,ae,⟨ax (k:=k) (by omega),rfl⟩,trivial⟩ ⟨ae,ae,⟨hI _,rfl⟩,trivial⟩)
     |fail)
   |false =>
    rw[if_neg (by rw[hcn];simp)]at hr;subst hr;have ke:¬gI z.af z.ak s.set.name=true:=by rw[hcn];simp
    have n1:(!(cut==[]))=true->(bK s.set.name cut).1=true->gy (gI z.af z.ak) cut s=cut:=λh1 h2=>by rw[gy,if_neg ke,if_pos h1,if_pos h2]
    have n2:(!(cut==[]))=true->(bK s.set.name cut).1=false->gy (gI z.af z.ak) cut s=[]:=λh1 h2=>by rw[gy,if_neg ke,if_pos h1,if_neg (by rw[h2];simp)]
    have n3:(!(cut==[]))=false->gy (gI z.af z.ak) cut s=cut:=λh1=>by rw[gy,if_neg ke,if_neg (by rw[h1];simp)]
    clear ke;conv=>whnf
    repeat' (first
     |(refine aj (λh=>?_) (λh=>?_) <;> (rw[h];conv=>whnf))
     |(refine⟨_,_,od s.set.name cut,?_⟩;conv=>whnf)
     |(refine⟨aC k,km,?_⟩;conv=>whnf)
     |(refine⟨_,kd,?_⟩;conv=>whnf)
     |exact again cut _ (n1 (by assumption) (by simpa using (by assumption:(!(bK s.set.name cut).1)=false))) (by simp only[sA, *, if_true,if_false,aY];done) _ (aK.keep ⟨ae,ae,ae,ae,ae,⟨ax (k:=k) (by omega),rfl⟩,trivial⟩ ⟨ae,ae,⟨hI _,rfl⟩,trivial⟩)
     |exact again [] true (n2 (by assumption) (by simpa using (by assumption:(!(bK s.set.name cut).1)=true))) rfl _ (aK.keep ⟨ae,ae,ae,ae,ae,⟨ax (k:=k) (by omega),rfl⟩,trivial⟩ ⟨ae,ae,⟨hI _,rfl⟩,trivial⟩)
     |exact again cut _ (n3 (by assumption)) (by simp only[sA, *, if_true,if_false,aY];done) _ (aK.keep ⟨ae,ae,ae,ae,ae,⟨ax (k:=k) (by omega),rfl⟩,trivial⟩ ⟨ae,ae,⟨hI _,rfl⟩,trivial⟩)
     |fail)
  .obtain rfl:k=z.ak.length:=by simp at h1;omega
   rw[List.drop_length,lB,List.append_nil]at hc;refine al rfl ?_;rw[<- hc,Nat.sub_self,List.replicate_zero,List.append_nil];rfl
def BF(a b:cR):Int:=dA a.n b.n
def Ua:List D->Int
 | .int _ n::_=>n
 |_=>0
def RG(x y:List D):Int:=dA (Ua x) (Ua y)
theorem Ja(l:List cR):lu BF l:=lu.key (λz=>z.n) λx _ y _=>by unfold BF dA;split <;> (try split) <;> omega
theorem Om(l:List cR):gS RG (l.map cd)=(gS BF l).map cd:=Df cd BF RG l λx _ y _=>rfl
def kG(l:List cR):List cR:=gS BF l
theorem uL(l:List cR):(kG l).Perm l:=nW (Ja l)
def oX(z:aO)(keys:List cR)(a b:Int):Bool:= !((decide ((keys.length:Int)<1)||decide ((keys.length:Int)>6))|| !qj a b|| !bf z)
def yN(l:List cR)(i:Nat):Bool:=match l[i-1]?, l[i]? with|some p,some k=>decide ((i:Int)>0)&&(p.n==k.n)|_,_=>false
def Ah(l:List cR):Bool:=(List.range l.length).any (yN l)
def xE(af:Bs)(keys:List cR)(a b:Int)(own:Bool)(s:Signed):Signed:=⟨s.set,if own=true then keys.map (λk=>lr s.set af k a b)else[]⟩
def gE(af:Bs)(keys:List cR)(a b:Int):List Bool->List Signed->List Signed
 |o::os,s::t=>xE af keys a b o s::gE af keys a b os t
 |_,_=>[]
def jJ(z:aO)(keys:List cR)(a b:Int):aO:=⟨z.af,gE z.af keys a b (lU z) z.ak⟩
def iK(z:aO)(keys:List cR)(a b:Int):aO×Int :=
 if oX z keys a b=false then(iT,1)
 else if keys.all nN=false then(iT,1)
 else if Ah (kG keys)=true then(iT,5)
 else(jJ z (kG keys) a b,0)
theorem Sg(a b:cR):NQ.Fn cx 43 [.agg (cd a),.agg (cd b)] (.d (.int .i64 (BF a b))) []:=by
 refine aT bo mixed Tryz.func43 ?_;conv=>whnf
 (refine⟨_,_,lJ a.n b.n,?_⟩;conv=>whnf)
 exact al rfl rfl
theorem Ol(l:List cR)(hl:l.length<=100000)(fl:Bool):FnR cx 42 false 31 2 (l.map cd) fl [.fn 43 [] []] ((kG l).map cd):=by
 unfold kG;rw[<- Om];exact Gv (cx:=cx) (ρ:=Tryz.Be) Tryz.Ux (k:=2) Tryz.isAgg31 Tryz.sizeOf31 ⟨_,Tryz.func42,by kernel_rfl,rfl⟩
  (λx hx y hy=>by
   obtain⟨a,ha,rfl⟩:=List.mem_map.1 hx;obtain⟨b,hb,rfl⟩:=List.mem_map.1 hy;exact Sg a b) (enters_of Tryz.func43 (by kernel_rfl) rfl) ((Ja l).map λx _ y _=>rfl) (by rw[aA];omega)
noncomputable def EX:Cx:={cx with chg:=gX [(42,2)]}
theorem Vh:bD EX:=bo
theorem SO:EX.P.follows .mixedOrders=true:=mixed
theorem Mr(z:aO)(keys:List cR)(a b:Int)(hl:keys.length<=100000):NQ.Fn EX 15 [.agg (aX z),.slice 2 (keys.map cd),.int .i64 a,.int .i64 b] (.tuple [.agg ((aX (iK z keys a b).1).map .d),.d (.int .i64 (iK z keys a b).2)]) []:=by
 refine eR (fun|10=>[88888]|34=>[300]|_=>[]) Vh SO Tryz.func15 ?_;have bad:oX z keys a b=false->iK z keys a b=(iT,1):=λh=>by rw[iK,if_pos h]
 have hT:oX z keys a b= !((decide ((keys.length:Int)<1)||decide ((keys.length:Int)>6))|| !qj a b|| !bf z):=rfl;conv=>whnf
 refine aj (λh1=>?_) (λh1=>?_) <;> (rw[h1];conv=>whnf)
 .exact al rfl (by rw[bad (by rw[hT];simp only[aA]at h1;simp only[h1,if_true,if_false,aY])];rfl)
 refine aj (λh2=>?_) (λh2=>?_) <;> (rw[h2];conv=>whnf)
 .exact al rfl (by rw[bad (by rw[hT];simp only[aA]at h2;simp only[h2,if_true,if_false,aY])];rfl)
 simp only[aA]at h1 h2;rw[h1,h2]at hT
 (refine⟨_,_,yx a b,?_⟩;conv=>whnf)
 obtain⟨q1,hL⟩:∃q,qj a b=q:=⟨_,rfl⟩
 rw[hL]at hT ⊢;cases q1 with
 |false =>
  conv=>whnf
  exact al rfl (by rw[bad (by rw[hT];simp only[if_true,if_false,aY])];rfl)
 |true =>
 conv=>whnf
 (refine⟨_,_,jB z,?_⟩;conv=>whnf)
 obtain⟨q1,hv⟩:∃q,bf z=q:=⟨_,rfl⟩
 rw[hv]at hT ⊢;cases q1 with
 |false =>
  conv=>whnf
  exact al rfl (by rw[bad (by rw[hT];simp only[if_true,if_false,aY])];rfl)
 |true =>
 conv=>whnf
 have hlen:1<=keys.length/\keys.length<=6:=by simp at h1 h2;omega
 clear bad h1 h2;have hM:oX z keys a b=true:=by rw[hT];rfl
 refine⟨Nat,λk=>⟨[(1,.d (.slice 2 (keys.map cd))),(2,.d (.int .i64 a)),(3,.d (.int .i64 b)),(4,.ptr 4 0),(8,.ptr 8 0),(44,.d (.slice 2 (keys.map cd))),(45,.d (.int .i64 ((keys.map cd).length:Int))),(46,.d (.int .i64 k))],[(4,.box ((aX z).map .d)),(8,.box [.d (.str []),.nil 5])]⟩,
  λk=>k<=keys.length/\(keys.take k).all nN=true,λk=>keys.length-k,⟨0,⟨by omega,rfl⟩,aK.keep ⟨ae,ae,ae,ae,ae,ae,ae,ae,trivial⟩ ⟨ae,ae,trivial⟩⟩,?_⟩
 rintro k ⟨hk,hD⟩;conv=>whnf
 refine aj (λh1=>?_) (λh1=>?_) <;> (rw[h1];conv=>whnf)
 .have hA:k<keys.length:=by simp at h1;omega
  obtain⟨q,kf⟩:∃q,keys[k]? =some q:=⟨_,au hA⟩
  refine⟨aC k,cd q,aM kf,?_⟩;conv=>whnf
  (refine⟨_,_,yw q,?_⟩;conv=>whnf)
  obtain⟨q1,hL⟩:∃x,nN q=x:=⟨_,rfl⟩
  rw[hL];cases q1 with
  |false =>
   conv=>whnf
   have ke:keys.all nN=false:=by
    rw[List.all_eq_false];exact⟨q,aD kf,by rw[hL];simp⟩
   exact al rfl (by rw[iK,if_neg (by rw[hM];simp),if_pos ke];rfl)
  |true =>
   conv=>whnf
   exact⟨k+1,⟨hA,by rw[bO kf,List.all_append,hD];simp[hL]⟩,by(show keys.length-(k+1)<keys.length-k;omega),aK.keep ⟨ae,ae,ae,ae,ae,ae,ae,⟨ax (by omega),rfl⟩,trivial⟩ ⟨ae,ae,trivial⟩⟩
 obtain rfl:k=keys.length:=by simp at h1;omega
 rw[List.take_length]at hD;refine⟨by omega,.inl rfl,by omega,by(simp only[aA];omega),by(simp only[aA];omega),?_⟩;conv=>whnf
 refine⟨by simp,?_⟩;conv=>whnf
 refine⟨_,Ol keys (by omega) _,?_⟩;conv=>whnf
 have kV:(kG keys).length=keys.length:=(uL keys).length_eq;have hJ:iK z keys a b=if Ah (kG keys)=true then(iT,5)else(jJ z (kG keys) a b,0):=by rw[iK,if_neg (by rw[hM];simp),if_neg (by rw[hD];simp)]
 have kk:∀k∈kG keys,nN k=true:=λk hk=>aI.1 hD k ((uL keys).mem_iff.1 hk)
 generalize kG keys=K at kV hJ kk ⊢
 refine⟨Nat,λk=>⟨[(2,.d (.int .i64 a)),(3,.d (.int .i64 b)),(4,.ptr 4 0),(8,.ptr 8 0),(12,.own 57),(63,.own 57),(64,.d (.int .i64 ((K.map cd).length:Int))),(65,.d (.int .i64 k))],[(4,.box ((aX z).map .d)),(8,.box [.d (.str []),.nil 5]),(57,.row 31 2 (K.map cd))]⟩,
  λk=>k<=K.length/\(List.range k).any (yN K)=false,λk=>K.length-k,⟨0,⟨by omega,rfl⟩,aK.keep ⟨ae,ae,ae,ae,ae,ae,ae,ae,trivial⟩ ⟨ae,ae,ae,trivial⟩⟩,?_⟩
 rintro k ⟨hk,kt⟩;conv=>whnf
 refine aj (λh1=>?_) (λh1=>?_) <;> (rw[h1];conv=>whnf)
 .have hA:k<K.length:=by simp at h1;omega
  obtain⟨q,kf⟩:∃q,K[k]? =some q:=⟨_,au hA⟩
  refine⟨aC k,by(show k<_;rw[aA];exact hA),?_⟩;conv=>whnf
  refine⟨cd q,aM kf,?_⟩;conv=>whnf
  have found:yN K k=true->iK z keys a b=(iT,5):=λh=>by
   rw[hJ,if_pos (show Ah K=true from List.any_eq_true.2 ⟨k,List.mem_range.2 hA,h⟩)]
  have again:yN K k=false->(List.range (k+1)).any (yN K)=false:=λh=>by rw[List.range_succ,List.any_append,kt];simp[h]
  obtain⟨p,kF⟩:∃p,K[k-1]? =some p:=⟨_,au (by omega)⟩
  have hV:yN K k=(decide ((k:Int)>0)&&(p.n==q.n)):=by rw[yN,kF,kf]
  rw[hV]at found again
  repeat' (first
   |(refine bV ?_;conv=>whnf)
   |(refine aj (λh=>?_) (λh=>?_) <;> (rw[h];conv=>whnf))
   |(refine⟨(mY (by assumption) (by omega)).1,by(show(IntKind.i64.wrap ((k:Int)-1)).toNat<_;rw[(mY (by assumption) (by omega)).2,aA];omega),?_⟩;conv=>whnf)
   |(refine⟨cd p,lP (by assumption) (by omega) kF,?_⟩;conv=>whnf)
   |exact al rfl (by rw[found (by simp only[*, if_true,if_false,aY];done)];rfl)
   |exact⟨k+1,⟨hA,again (by simp only[*, if_true,if_false,aY];done)⟩,by(show K.length-(k+1)<K.length-k;omega),aK.keep ⟨ae,ae,ae,ae,ae,ae,ae,⟨ax (by omega),rfl⟩,trivial⟩ ⟨ae,ae,ae,trivial⟩⟩
   |fail)
 obtain rfl:k=K.length:=by simp at h1;omega
 have ho:=bQ hv;rw[hJ,if_neg (by rw[Ah,kt];simp)];clear hJ kt hT hM hD
 (refine⟨_,_,Lj z (by have:=ho.few;omega),?_⟩;conv=>whnf)
 (refine bV ?_;conv=>whnf)
 have kO:=ho.few;refine⟨by omega,.inl rfl,by omega,by(simp only[aA];omega),by(simp only[aA];omega),?_⟩;conv=>whnf
 have kU:(lU z).length=z.ak.length:=rQ _ _ _;have kW:=rl hv;refine⟨Nat×List Signed,λx=>⟨[(2,.d (.int .i64 a)),(3,.d (.int .i64 b)),(4,.ptr 4 0),(8,.ptr 8 0),(12,.own 57),(15,.d (.slice 1 ((lU z).map kg))),(16,.ptr 16 0),(95,.d (.slice 5 (z.ak.map aw))),(96,.d (.int .i64 ((z.ak.map aw).length:Int))),(97,.d (.int .i64 x.1))],[(4,.box ((aX z).map .d)),(8,.box [.d (.str []),.nil 5]),(16,.box [.d (.str z.af),.own 92]),(57,.row 31 2 (K.map cd)),(92,.row 68 5 ((x.2++List.replicate (z.ak.length-x.1) mf).map aw) true)]⟩,
  λx=>x.1<=z.ak.length/\x.2.length=x.1/\x.2++gE z.af K a b ((lU z).drop x.1) (z.ak.drop x.1)=(jJ z K a b).ak,λx=>z.ak.length-x.1,
  ⟨(0,[]),⟨Nat.zero_le _,rfl,rfl⟩,aK.keep ⟨ae,ae,ae,ae,ae,ae,ae,ae,ae,ae,trivial⟩ ⟨ae,ae,ae,ae,⟨by(show some (Blk.row _ _ (List.replicate ((z.ak.map aw).length:Int).toNat _) true)=some (Blk.row _ _ _ true);simp[aw,mf];done),rfl⟩,trivial⟩⟩,?_⟩
 rintro⟨k,acc⟩ ⟨hk,kx,hc⟩;simp only at hk kx hc;conv=>whnf
 refine aj (λh1=>?_) (λh1=>?_) <;> (rw[h1];conv=>whnf)
 .have hA:k<z.ak.length:=by simp at h1;omega
  obtain⟨s,hQ⟩:∃s,z.ak[k]? =some s:=⟨_,au hA⟩
  obtain⟨o,hN⟩:∃o,(lU z)[k]? =some o:=⟨_,au (by omega)⟩
  rw[drop_cons hQ,drop_cons hN,gE]at hc;have xg:=(kW s (aD hQ)).1;refine⟨aC k,aw s,aM hQ,?_⟩;conv=>whnf
  (refine⟨_,_,nG _ (by rw[aA];omega),?_⟩;conv=>whnf)
  refine⟨aC k,kg o,aM hN,?_⟩;conv=>whnf
  have kd:((acc++List.replicate (z.ak.length-k) mf).map aw)[k]? =some (aw mf):=by
   rw[bc,cL (by omega),List.getElem?_replicate,if_pos (by omega)];rfl
  have km:k<((acc++List.replicate (z.ak.length-k) mf).map aw).length:=by simp;omega
  have hI:∀t:Signed,some (Blk.row 68 5 (((acc++List.replicate (z.ak.length-k) mf).map aw).set k (aw t)) true)=some (Blk.row 68 5 ((acc++[t]++List.replicate (z.ak.length-(k+1)) mf).map aw) true):=λt=>by
   rw[<- List.map_set,JJ acc mf t kx hA]
  have again:∀t,xE z.af K a b o s=t-> ∀st,aK EX st ⟨[(2,.d (.int .i64 a)),(3,.d (.int .i64 b)),(4,.ptr 4 0),(8,.ptr 8 0),(12,.own 57),(15,.d (.slice 1 ((lU z).map kg))),(16,.ptr 16 0),(95,.d (.slice 5 (z.ak.map aw))),(96,.d (.int .i64 ((z.ak.map aw).length:Int))),(97,.d (.int .i64 ((k+1:Nat):Int)))],[(4,.box ((aX z).map .d)),(8,.box [.d (.str []),.nil 5]),(16,.box [.d (.str z.af),.own 92]),(57,.row 31 2 (K.map cd)),(92,.row 68 5 ((acc++[t]++List.replicate (z.ak.length-(k+1)) mf).map aw) true)]⟩ ->
   ∃y:Nat×List Signed,(y.1<=z.ak.length/\y.2.length=y.1/\y.2++gE z.af K a b ((lU z).drop y.1) (z.ak.drop y.1)=(jJ z K a b).ak)/\z.ak.length-y.1<z.ak.length-k/\aK EX st ⟨[(2,.d (.int .i64 a)),(3,.d (.int .i64 b)),(4,.ptr 4 0),(8,.ptr 8 0),(12,.own 57),(15,.d (.slice 1 ((lU z).map kg))),(16,.ptr 16 0),(95,.d (.slice 5 (z.ak.map aw))),(96,.d (.int .i64 ((z.ak.map aw).length:Int))),(97,.d (.int .i64 y.1))],[(4,.box ((aX z).map .d)),(8,.box [.d (.str []),.nil 5]),(16,.box [.d (.str z.af),.own 92]),(57,.row 31 2 (K.map cd)),(92,.row 68 5 ((y.2++List.replicate (z.ak.length-y.1) mf).map aw) true)]⟩:=by
   rintro t rfl st hw;exact⟨(k+1,acc++[_]),⟨hA,by(simp;omega),by(rw[<- hc,List.append_assoc];rfl)⟩,by(show z.ak.length-(k+1)<z.ak.length-k;omega),hw⟩
  cases o with
  |false =>
   conv=>whnf
   refine⟨aC k,km,?_⟩;conv=>whnf
   refine⟨_,kd,?_⟩;conv=>whnf
   exact again ⟨s.set,[]⟩ rfl _ (aK.keep ⟨ae,ae,ae,ae,ae,ae,ae,ae,ae,⟨ax (k:=k) (by omega),rfl⟩,trivial⟩ ⟨ae,ae,ae,ae,⟨hI ⟨s.set,[]⟩,rfl⟩,trivial⟩)
  |true =>
   conv=>whnf
   refine⟨Nat,λj=>⟨[(2,.d (.int .i64 a)),(3,.d (.int .i64 b)),(4,.ptr 4 0),(8,.ptr 8 0),(12,.own 57),(15,.d (.slice 1 ((lU z).map kg))),(16,.ptr 16 0),(17,.d (.int .i64 k)),(19,.ptr 19 0),(95,.d (.slice 5 (z.ak.map aw))),(96,.d (.int .i64 ((z.ak.map aw).length:Int))),(97,.d (.int .i64 k)),(115,.own 57),(116,.d (.int .i64 ((K.map cd).length:Int))),(117,.d (.int .i64 j))],[(4,.box ((aX z).map .d)),(8,.box [.d (.str []),.nil 5]),(16,.box [.d (.str z.af),.own 92]),(19,.box [.d (.str s.set.name),.d (.int .i64 s.set.type),.d (.int .i64 s.set.aP),.d (.slice 3 (s.set.data.map aQ)),.own 300]),(57,.row 31 2 (K.map cd)),(92,.row 68 5 ((acc++List.replicate (z.ak.length-k) mf).map aw) true),(300,.row 109 6 (((K.take j).map λq=>lr s.set z.af q a b).map gK))]⟩,
    λj=>j<=K.length,λj=>K.length-j,
    ⟨0,Nat.zero_le _,(aK.jw 19 4 300 6 [.d (.str s.set.name),.d (.int .i64 s.set.type),.d (.int .i64 s.set.aP),.d (.slice 3 (s.set.data.map aQ)),.nil 6] 109 6 rfl rfl rfl (by decide)).trans (aK.keep ⟨ae,ae,ae,ae,ae,ae,ae,ae,ae,ae,ae,ae,ae,ae,ae,trivial⟩ ⟨ae,ae,ae,ae,ae,ae,ae,trivial⟩)⟩,?_⟩
   intro j hj;conv=>whnf
   refine aj (λh2=>?_) (λh2=>?_) <;> (rw[h2];conv=>whnf)
   .have kb:j<K.length:=by simp at h2;omega
    obtain⟨q,kv⟩:∃q,K[j]? =some q:=⟨_,au kb⟩
    refine⟨aC j,by(show j<_;rw[aA];exact kb),?_⟩;conv=>whnf
    refine⟨cd q,aM kv,?_⟩;conv=>whnf
    have ko:lC s.set z.af q a b=(lr s.set z.af q a b,0):=by
     rw[lC,if_pos];rw[wG,kk q (aD kv),hL,ho.af,ho.Ro,ho.set s (aD hQ),ho.under s (aD hQ)];rfl
    have fS:=JL s.set z.af q a b;rw[ko]at fS
    (refine⟨_,_,fS,?_⟩;conv=>whnf)
    refine⟨by(show(List.map gK _).length+1<=_;rw[aA,aA,List.length_take];omega),by(show((List.map gK _).length+1)*56<=_;rw[aA,aA,List.length_take];omega),?_⟩;conv=>whnf
    exact⟨j+1,kb,by(show K.length-(j+1)<K.length-j;omega),aK.keep ⟨ae,ae,ae,ae,ae,ae,ae,ae,ae,ae,ae,ae,ae,ae,⟨ax (by omega),rfl⟩,trivial⟩ ⟨ae,ae,ae,ae,ae,ae,⟨by(show some (Blk.row _ _ (_++_))=some (Blk.row _ _ _);rw[bO kv,List.map_append,List.map_append];rfl),rfl⟩,trivial⟩⟩
   .obtain rfl:j=K.length:=by simp at h2;omega
    refine⟨aC k,km,?_⟩;conv=>whnf
    refine⟨_,kd,?_⟩;conv=>whnf
    have e:xE z.af K a b true s=⟨s.set,(K.take K.length).map λq=>lr s.set z.af q a b⟩:=by rw[xE,if_pos rfl,List.take_length]
    exact again _ e _ (aK.keep ⟨ae,ae,ae,ae,ae,ae,ae,ae,ae,⟨ax (k:=k) (by omega),rfl⟩,trivial⟩ ⟨ae,ae,ae,ae,⟨hI ⟨s.set,(K.take K.length).map λq=>lr s.set z.af q a b⟩,rfl⟩,trivial⟩)
 .obtain rfl:k=z.ak.length:=by simp at h1;omega
  rw[List.drop_length,List.drop_of_length_le (by omega),show gE z.af K a b [] []=[]from rfl,List.append_nil]at hc;refine al rfl ?_;rw[Nat.sub_self,List.replicate_zero,List.append_nil,hc];rfl
def pq:cG:=⟨[],0,0,[]⟩
def isF(s:Bs)(kind:Int)(x:Signed):Bool:=(x.set.name==s)&&(x.set.type==kind)
def mn(z:aO)(s:Bs)(kind:Int):Option Signed:=z.ak.find? (isF s kind)
def wfR(z:aO)(s:Bs)(kind:Int):cG×Bool:=match mn z s kind with|some x=>(x.set,true)|none=>(pq,false)
theorem lM{α:Type}(p:α->Bool):∀l:List α,(match l.findIdx? p with|some k=>l[k]? |none=>none)=l.find? p
 |[]=>rfl
 |x::t=>by
  rw[List.findIdx?_cons,List.find?_cons];cases h:p x with
  |true=>rfl
  |false =>
   have ih:=lM p t;cases hi:t.findIdx? p with
   |none=>rw[hi]at ih;simpa using ih
   |some k=>rw[hi]at ih;simpa using ih
def cN(z:aO):Int:=match mn z z.af 4 with|some x=>(match x.set.data with|d::_=>d.n|[]=>0)|none=>0
def vr(b p:ao):Int:=if dA (cN b.ah) (cN p.ah)=0 then dA p.host b.host else dA (cN b.ah) (cN p.ah)
def mi(af:Bs)(b:Option (Nat×ao))(i:Nat)(p:ao):Option (Nat×ao):=if (p.ah.af != af)=true then b else match b with|none=>some (i,p)|some (j,q)=>if vr q p<0 then some (i,p)else some (j,q)
def lz(af:Bs):Option (Nat×ao)->Nat->List ao->Option (Nat×ao)
 |b,_,[]=>b
 |b,i,p::t=>lz af (mi af b i p) (i+1) t
def tS(zs:List ao)(af:Bs):Option (Nat×ao):=lz af none 0 zs
def bS(zs:List ao)(af:Bs):aO×Bool:=match tS zs af with|some (_,p)=>(p.ah,true)|none=>(iT,false)
theorem wT(x:Signed)(s:Bs)(kind:Int):NQ.Fn cx 178 [.agg (aw x),.ptr [.str s],.ptr [.int .i64 kind]] (.d (.bool (isF s kind x))) []:=by
 refine aT bo mixed Tryz.func178 ?_;conv=>whnf
 repeat' (first
  |(refine aj (λh=>?_) (λh=>?_) <;> (rw[h];conv=>whnf))
  |(refine al rfl ?_;show AV.d (D.bool _)=_;simp only[isF, *, if_true,if_false,aY];done)
  |fail)
theorem yW(l:List Signed)(p:Signed->Bool)(x y:D)(hn:l.length<=100000)(hf:∀s∈l,NQ.Fn cx 178 [.agg (aw s),x,y] (.d (.bool (p s))) []) :
 NQ.Fn cx 177 [.slice 5 (l.map aw),.fn 178 [] [x,y]] (.d (.int .i64 (match l.findIdx? p with|some k=>(k:Int)|none=> -1))) []:=by
 refine aT bo mixed Tryz.func177 ?_;conv=>whnf
 refine⟨Nat,λk=>⟨[(0,.d (.slice 5 (l.map aw))),(1,.d (.fn 178 [] [x,y])),(7,.d (.int .i64 ((l.map aw).length:Int))),(8,.d (.int .i64 k))],[]⟩,λk=>k<=l.length/\ ∀j y,j<k->l[j]? =some y->p y=false,λk=>l.length-k,
  ⟨0,⟨by omega,λj y h=>by omega⟩,aK.keep ⟨ae,ae,ae,ae,trivial⟩ trivial⟩,λk hk=>?_⟩
 obtain⟨hk,hD⟩:=hk;conv=>whnf
 refine aj (λh1=>?_) (λh1=>?_) <;> (rw[h1];conv=>whnf)
 .have hA:k<l.length:=by simp at h1;omega
  obtain⟨s,hs⟩:∃s,l[k]? =some s:=⟨_,au hA⟩
  refine⟨aC k,aw s,aM hs,?_⟩;conv=>whnf
  (refine⟨_,_,hf s (aD hs),?_⟩;conv=>whnf)
  refine aj (λh2=>?_) (λh2=>?_) <;> (rw[h2];conv=>whnf)
  .refine al rfl ?_;have:l.findIdx? p=some k:=by
    rw[List.findIdx?_eq_some_iff_getElem];obtain⟨g1,g2⟩:=aB.1 hs;refine⟨g1,by rw[g2];exact h2,λj hj=>?_⟩;have:=hD j (l[j]) hj (au (by omega));rw[this];decide
   rw[this];rfl
  .refine⟨k+1,⟨hA,λj y hj hy=>?_⟩,by(show l.length-(k+1)<l.length-k;omega),aK.keep ⟨ae,ae,ae,⟨ax (by omega),rfl⟩,trivial⟩ trivial⟩;rcases Nat.lt_succ_iff_lt_or_eq.1 hj with hj|rfl
   .exact hD j y hj hy
   .rw[hs]at hy;cases hy;exact h2
 .obtain rfl:k=l.length:=by simp at h1;omega
  refine al rfl ?_;have:l.findIdx? p=none:=by
   rw[List.findIdx?_eq_none_iff];intro x hx;obtain⟨i,hi⟩:=cQ hx;exact hD i x (aB.1 hi).1 hi
  rw[this];rfl
theorem ni(z:aO)(s:Bs)(kind:Int)(hn:z.ak.length<=100000):NQ.Fn cx 110 [.agg (aX z),.str s,.int .i64 kind] (.tuple [.agg ((cg (wfR z s kind).1).map .d),.d (.bool (wfR z s kind).2)]) []:=by
 refine aT bo mixed Tryz.func110 ?_;conv=>whnf
 (refine⟨_,yW z.ak (isF s kind) _ _ hn (λx _=>wT x s kind),rfl,?_⟩;conv=>whnf)
 have kp:=lM (isF s kind) z.ak;have ki:wfR z s kind=match z.ak.find? (isF s kind)with|some x=>(x.set,true)|none=>(pq,false):=rfl
 cases hi:z.ak.findIdx? (isF s kind)with
 |none =>
  rw[hi]at kp;rw[<- kp]at ki;conv=>whnf
  exact al rfl (by rw[ki];rfl)
 |some k =>
  rw[hi]at kp;obtain⟨hA,_⟩:=List.findIdx?_eq_some_iff_getElem.1 hi;obtain⟨x,hx⟩:∃x,z.ak[k]? =some x:=⟨_,au hA⟩
  rw[<- kp]at ki;simp only[hx]at ki;conv=>whnf
  refine⟨aC k,aw x,aM hx,?_⟩;conv=>whnf
  exact al rfl (by rw[ki];rfl)
theorem AW(z:aO)(hn:z.ak.length<=100000)(hs:∀s∈z.ak,ee s.set=true):NQ.Fn cx 109 [.agg (aX z)] (.d (.int .i64 (cN z))) []:=by
 refine aT bo mixed Tryz.func109 ?_;conv=>whnf
 (refine⟨_,_,ni z z.af 4 hn,?_⟩;conv=>whnf)
 cases hf:mn z z.af 4 with
 |none =>
  have e:wfR z z.af 4=(pq,false):=by rw[wfR,hf]
  rw[e];conv=>whnf
  exact al rfl (by rw[cN,hf];rfl)
 |some x =>
  have e:wfR z z.af 4=(x.set,true):=by rw[wfR,hf]
  rw[e];conv=>whnf
  have hx:=List.mem_of_find?_eq_some hf;obtain⟨d0,hd⟩:=wD (hs x hx);obtain⟨d,t,kB⟩:∃d t,x.set.data=d::t:=by
   cases hdd:x.set.data with
   |nil=>rw[hdd]at hd;simp at hd
   |cons d t=>exact⟨d,t,rfl⟩
  refine⟨by decide,aQ d,by rw[kB];rfl,?_⟩;conv=>whnf
  have e:cN z=d.n:=by simp only[cN,hf,kB]
  exact al rfl (by rw[e];rfl)
abbrev sN(l:List Signed):Blk:= .row 68 5 (l.map aw)
noncomputable def cxW:Cx:={cx with chg:=gX []}
theorem tyW:bD cxW:=bo
theorem tj:cxW.P.follows .mixedOrders=true:=mixed
structure bz where
 w:aZ
 since:Int
 aN:Int
 ah:aO
 aP:Int
 got:List (Bs×List Int)
 aF:List ao
 bp:List (List ao)
def dC(l:List ao):List D:=[.slice 3 (l.map aR)]
def hZ(g:List (Bs×List Int)):List (Bs×D):=g.map λp=>(p.1,.slice 1 (p.2.map dj))
def QG(v:Bool)(o:bz):List AV:=match v with
 |true=>(bu o.w).map .d++[.d (.int .i64 o.since),.d (.int .i64 o.aN),.d (.str o.ah.af),.d (.slice 5 (o.ah.ak.map aw)),.d (.int .i64 o.aP),.omap 90032,.own 90040,.own 90041]
 |false=>(bu o.w).map .d++[.d (.int .i64 0),.d (.int .i64 0),.d (.str []),.nil 5,.d (.int .i64 0),.d .iy,.nil 3,.nil 1]
def gJ(w:aZ):List AV:=(bu w).map .d++[.undef,.undef,.undef,.undef,.undef,.undef,.undef,.undef]
theorem JD(a b:Int):lT [a,b]=if a=0 then b else a:=by
 unfold lT;by_cases h:a=0
 .subst h;by_cases h' :b=0
  .subst h';rfl
  .rw[List.find?_cons_of_neg (by simp),List.find?_cons_of_pos (by simpa using h')];rfl
 .rw[List.find?_cons_of_pos (by simpa using h),if_neg h];rfl
theorem jm(w:aZ)(af:Bs)(hv:∀p∈w.ai,bf p.ah=true)(hn:w.ai.length<=100000) :
 FnP cxW pv0 62 [.agg (gJ w),.d (.str af)] [] (some (.tuple [.agg ((aX (bS w.ai af).1).map .d),.d (.bool (bS w.ai af).2)],[])):=by
 refine bt [] (fun|0=>[33333]|_=>[]) tyW tj Tryz.func62 ?_;have kK:∀p∈w.ai,p.ah.ak.length<=100000/\ ∀s∈p.ah.ak,ee s.set=true:=λp hp=>by
  have ho:=bQ (hv p hp);exact⟨by have:=ho.few;omega,ho.set⟩
 have step:∀b k p,w.ai[k]? =some p->lz af b k (w.ai.drop k)=lz af (mi af b k p) (k+1) (w.ai.drop (k+1)):=λb k p hp=>by rw[drop_cons hp];rfl
 conv=>whnf
 refine⟨Nat×Option (Nat×ao),λx=>⟨[(1,.d (.str af)),(2,.ptr 2 0),(4,.ptr 4 0),(6,.d (.int .i64 (match x.2 with|some (j,_)=>(j:Int)|none=> -1))),(12,.d (.slice 3 (w.ai.map aR))),(13,.d (.int .i64 ((w.ai.map aR).length:Int))),(14,.d (.int .i64 x.1))],[(2,.box (gJ w)),(4,.box [.d (.str []),.nil 5])]⟩,
  λx=>x.1<=w.ai.length/\lz af x.2 x.1 (w.ai.drop x.1)=tS w.ai af/\ ∀j q,x.2=some (j,q)->w.ai[j]? =some q/\j<x.1,λx=>w.ai.length-x.1,
  ⟨(0,none),⟨Nat.zero_le _,rfl,λj q h=>by cases h⟩,aq.keep⟩,?_⟩
 rintro⟨k,b⟩ ⟨hk,hb,hj⟩;simp only at hk hb hj;conv=>whnf
 refine aj (λh1=>?_) (λh1=>?_) <;> (rw[h1];conv=>whnf)
 .have hA:k<w.ai.length:=by simp at h1;omega
  obtain⟨p,hp⟩:∃p,w.ai[k]? =some p:=⟨_,au hA⟩
  have kH:=kK p (aD hp);rw[step b k p hp]at hb;unfold mi at hb;refine⟨aC k,aR p,aM hp,?_⟩;conv=>whnf
  have again:∀b',lz af b' (k+1) (w.ai.drop (k+1))=tS w.ai af->(∀j q,b' =some (j,q)->w.ai[j]? =some q/\j<k+1)-> ∀st,aq cxW [] st ⟨[(1,.d (.str af)),(2,.ptr 2 0),(4,.ptr 4 0),(6,.d (.int .i64 (match b' with|some (j,_)=>(j:Int)|none=> -1))),(12,.d (.slice 3 (w.ai.map aR))),(13,.d (.int .i64 ((w.ai.map aR).length:Int))),(14,.d (.int .i64 ((k+1:Nat):Int)))],[(2,.box (gJ w)),(4,.box [.d (.str []),.nil 5])]⟩ ->
   ∃y:Nat×Option (Nat×ao),(y.1<=w.ai.length/\lz af y.2 y.1 (w.ai.drop y.1)=tS w.ai af/\ ∀j q,y.2=some (j,q)->w.ai[j]? =some q/\j<y.1)/\w.ai.length-y.1<w.ai.length-k/\aq cxW [] st ⟨[(1,.d (.str af)),(2,.ptr 2 0),(4,.ptr 4 0),(6,.d (.int .i64 (match y.2 with|some (j,_)=>(j:Int)|none=> -1))),(12,.d (.slice 3 (w.ai.map aR))),(13,.d (.int .i64 ((w.ai.map aR).length:Int))),(14,.d (.int .i64 y.1))],[(2,.box (gJ w)),(4,.box [.d (.str []),.nil 5])]⟩:=λb' e1 e2 st hw=>⟨(k+1,b'),⟨hA,e1,e2⟩,by(show w.ai.length-(k+1)<w.ai.length-k;omega),hw⟩
  refine aj (λh2=>?_) (λh2=>?_) <;> (rw[h2];conv=>whnf)
  .rw[if_pos (show(p.ah.af != af)=true from h2)]at hb;exact again b hb (λj q e=>by obtain⟨e1,e2⟩:=hj j q e;exact⟨e1,by omega⟩) _ (aq.keep ⟨ae,ae,ae,ae,ae,ae,⟨ax (k:=k) (by omega),rfl⟩,trivial⟩)
  rw[if_neg (show ¬(p.ah.af != af)=true by(show ¬(!(p.ah.af==af))=true);rw[h2];simp)]at hb;cases b with
  |none =>
   conv=>whnf
   exact again (some (k,p)) hb (λj q e=>by cases e;exact⟨hp,Nat.lt_succ_self _⟩) _ (aq.keep ⟨ae,ae,ae,ae,ae,ae,⟨ax (k:=k) (by omega),rfl⟩,trivial⟩)
  |some jq =>
  obtain⟨j,q⟩:=jq;obtain⟨hq,kP⟩:=hj j q rfl;have kI:=kK q (aD hq);dsimp only at hb;conv=>whnf
  refine⟨aC j,aR q,aM hq,?_⟩;conv=>whnf
  have kT:lT [dA (cN q.ah) (cN p.ah),dA p.host q.host]=vr q p:=JD _ _;have fO:=DU [dA (cN q.ah) (cN p.ah),dA p.host q.host] (by simp);rw[kT]at fO
  (refine bV ?_;conv=>whnf)
  (refine⟨_,_,AW q.ah kI.1 kI.2,?_⟩;conv=>whnf)
  (refine⟨_,_,AW p.ah kH.1 kH.2,?_⟩;conv=>whnf)
  (refine⟨_,_,lJ (cN q.ah) (cN p.ah),?_⟩;conv=>whnf)
  (refine⟨_,_,lJ p.host q.host,?_⟩;conv=>whnf)
  (refine⟨_,fO,by kernel_rfl,?_⟩;conv=>whnf)
  refine aj (λh3=>?_) (λh3=>?_) <;> (rw[h3];conv=>whnf)
  .rw[if_pos (by simpa using h3)]at hb;exact again (some (k,p)) hb (λj q e=>by cases e;exact⟨hp,Nat.lt_succ_self _⟩) _ (aq.keep ⟨ae,ae,ae,ae,ae,ae,⟨ax (k:=k) (by omega),rfl⟩,trivial⟩)
  .rw[if_neg (by simpa using h3)]at hb;exact again (some (j,q)) hb (λj' q' e=>by cases e;exact⟨hq,by omega⟩) _ (aq.keep ⟨ae,ae,ae,ae,ae,ae,⟨ax (k:=k) (by omega),rfl⟩,trivial⟩)
 .obtain rfl:k=w.ai.length:=by simp at h1;omega
  rw[List.drop_length,lz]at hb;have kz:tS w.ai af=b:=hb.symm;cases b with
  |none =>
   have hz:bS w.ai af=(iT,false):=by rw[bS,kz]
   conv=>whnf
   exact cq rfl (by rw[hz];rfl) (by rw[hz];rfl)
  |some jq =>
   obtain⟨j,q⟩:=jq;obtain⟨hq,kP⟩:=hj j q rfl;have hz:bS w.ai af=(q.ah,true):=by rw[bS,kz]
   conv=>whnf
   refine⟨aC j,aR q,aM hq,?_⟩;conv=>whnf
   exact cq rfl (by rw[hz];rfl) (by rw[hz];rfl)
def qT(s:Bs):Bool:=bq s&&(s != [42])&& !(Go.Lib.hasPrefix s [42,46])
def BS(k:cR):Bool:=decide (1<=k.n)&&decide (k.n<=1000000)&&decide (1<=k.alg)&&decide (k.alg<=3)
def bJ(w:aZ)(n:Int):Bool:=decide (0<=n)&&decide (n<(w.ay.length:Int))
def nameAt(w:aZ)(n:Int):Bs:=match w.ay[n.toNat]? with|some h=>h.name|none=>[]
def lO(w:aZ):List Bs->List Int->Bool
 |_,[]=>true
 |seen,n::t=>bJ w n&& !(seen.contains (nameAt w n))&&lO w (seen++[nameAt w n]) t
def gR(w:aZ)(l:List Int):Bool:= !(decide ((l.length:Int)<1)||decide ((l.length:Int)>8))&&lO w [] l
def qe(l:List Bs):List (Bs×D):=l.map λa=>(a,.bool true)
theorem qf(a:Bs):∀l:List Bs,bG a (qe l)=if l.contains a=true then some (.bool true)else none
 |[]=>rfl
 |x::l=>by
  show(if a=x then _ else bG a (qe l))=_
  by_cases h:a=x
  .subst h;simp
  .rw[if_neg h,qf a l,List.contains_cons,show(a==x)=false by simpa using h,ka]
theorem Og{a:Bs}{l:List Bs}(h:l.contains a=false):cM a (.bool true) (qe l)=qe (l++[a]):=by
 rw[my (by rw[qf,h];rfl)];simp[qe]
def wE(a b:Signed):Int:=if (fg a.set.name b.set.name).1=0 then dA a.set.type b.set.type else(fg a.set.name b.set.name).1
def mu(z:aO)(s:Bs)(kind:Int)(data:List Datum):Bool:=(wfR z s kind).2&&((wfR z s kind).1.data==data)
theorem nC(s a:Bs):NQ.Fn cx 134 [.str s,.str a] (.d (.bool (bK s a).1)) []:=by
 refine aT bo mixed Tryz.func134 ?_;conv=>whnf
 (refine⟨_,_,od s a,?_⟩;conv=>whnf)
 have hu:(bK s a).1=true->(bK s a).2=0:=by
  unfold bK;split
  .intro _;rfl
  .intro h;cases h
 repeat' (first|(refine aj (λh=>?_) (λh=>?_) <;> (rw[h];conv=>whnf))|fail)
 all_goals (refine al rfl ?_;show AV.d (D.bool _)=AV.d (D.bool _);congr 2;try simp_all)
theorem TO(s:Bs):NQ.Fn cx 95 [.str s,.str [42,46]] (.d (.bool (Go.Lib.hasPrefix s [42,46]))) []:=by
 refine eY ⟨_,Tryz.func95,by kernel_rfl,by kernel_rfl⟩ rfl λw vs _ kX kl=>?_
 obtain⟨b,hb,rfl⟩:=fY (kl 0 _ rfl);obtain⟨c,hc,kN⟩:=fY (kl 1 _ rfl);rw[xJ kX,hb,hc];refine(Tryz.strings_HasPrefix _ _ _).mono ?_;rintro e w' ⟨rfl,rfl⟩;rw[kN];exact⟨_,rfl,Below.refl _ _,.fL _⟩
theorem plain_fn(s:Bs):NQ.Fn cx 75 [.str s] (.d (.bool (qT s))) []:=by
 refine aT bo mixed Tryz.func75 ?_;conv=>whnf
 repeat' (first|(refine⟨_,_,mU s,?_⟩;conv=>whnf)|(refine⟨_,_,TO s,?_⟩;conv=>whnf)|(refine aj (λh=>?_) (λh=>?_) <;> (rw[h];conv=>whnf))|fail)
 all_goals (refine al rfl ?_;show AV.d (D.bool _)=AV.d (D.bool _);congr 2;unfold qT;simp_all)
theorem Jn(k:cR):NQ.Fn cx 74 [.agg (cd k)] (.d (.bool (BS k))) []:=by
 refine aT bo mixed Tryz.func74 ?_;conv=>whnf
 repeat' (first|(refine aj (λh=>?_) (λh=>?_) <;> (rw[h];conv=>whnf))|fail)
 all_goals (refine al rfl ?_;show AV.d (D.bool _)=AV.d (D.bool _);congr 2;unfold BS;(try simp_all);(try omega))
theorem CL(w:aZ)(n:Int):NQ.Fn cx 76 [.agg (bu w),.int .i64 n] (.d (.bool (bJ w n))) []:=by
 refine aT bo mixed Tryz.func76 ?_;conv=>whnf
 repeat' (first|(refine aj (λh=>?_) (λh=>?_) <;> (rw[h];conv=>whnf))|fail)
 all_goals (refine al rfl ?_;show AV.d (D.bool _)=AV.d (D.bool _);congr 2;unfold bJ;(try simp_all);(try omega))
theorem FT(a b:Datum):NQ.Fn cx 125 [.agg (aQ a),.agg (aQ b)] (.d (.int .i64 (fW a b))) []:=by
 refine aT bo mixed Tryz.func125 ?_;conv=>whnf
 repeat' (first|(refine bV ?_;conv=>whnf)|(refine⟨_,_,vt _ _,?_⟩;conv=>whnf)|(refine⟨_,_,lJ _ _,?_⟩;conv=>whnf)|fail)
 refine⟨_,DU [_,_,_] (by simp),rfl,?_⟩;conv=>whnf
 refine al rfl ?_;rw[JE];rfl
theorem Ar(a b:Signed):NQ.Fn cx 183 [.agg (aw a),.agg (aw b)] (.d (.int .i64 (wE a b))) []:=by
 refine aT bo mixed Tryz.func183 ?_;conv=>whnf
 repeat' (first|(refine bV ?_;conv=>whnf)|(refine⟨_,_,zx _ _,?_⟩;conv=>whnf)|(refine⟨_,_,lJ _ _,?_⟩;conv=>whnf)|fail)
 refine⟨_,DU [_,_] (by simp),rfl,?_⟩;conv=>whnf
 refine al rfl ?_;rw[JD];rfl
theorem MT(a b:List Datum)(ha:a.length<=200000):NQ.Fn cx 139 [.slice 3 (a.map aQ),.slice 3 (b.map aQ)] (.d (.bool (a==b))) []:=by
 refine aT bo mixed Tryz.func139 ?_;conv=>whnf
 by_cases hl:a.length=b.length
 .rw[show(((a.map aQ).length:Int) != ((b.map aQ).length:Int))=false by simp[hl]];conv=>whnf
  refine⟨Nat,λk=>⟨[(0,.d (.slice 3 (a.map aQ))),(1,.d (.slice 3 (b.map aQ))),(12,.d (.int .i64 ((a.map aQ).length:Int))),(13,.d (.int .i64 k))],[]⟩,λk=>k<=a.length/\a.take k=b.take k,λk=>a.length-k,
   ⟨0,⟨Nat.zero_le _,rfl⟩,aK.keep ⟨ae,ae,ae,ae,trivial⟩ trivial⟩,λk ⟨hk,he⟩=>?_⟩
  dsimp only at hk he ⊢;conv=>whnf
  refine aj (λh1=>?_) (λh1=>?_) <;> (rw[h1];conv=>whnf)
  .have hA:k<a.length:=by simpa using h1
   obtain⟨x,hx⟩:∃x,a[k]? =some x:=⟨_,au hA⟩
   obtain⟨y,hy⟩:∃y,b[k]? =some y:=⟨_,au (by omega)⟩
   (refine bV ?_;conv=>whnf)
   refine⟨aC k,aQ x,aM hx,?_⟩;conv=>whnf
   refine⟨aC k,aQ y,aM hy,?_⟩;conv=>whnf
   have xa:(x.text==y.text&&(x.n==y.n&&(x.m==y.m&&true)))=(x==y):=by
    rw[Bool.eq_iff_iff];simp only[aU,beq_iff_eq,and_true];constructor
    .rintro⟨h1,h2,h3⟩;cases x;cases y;simp_all
    .rintro rfl;exact⟨rfl,rfl,rfl⟩
   rw[xa];by_cases ks:x=y
   .rw[show(x==y)=true by simp[ks]];conv=>whnf
    refine⟨k+1,⟨hA,?_⟩,by(show a.length-(k+1)<a.length-k;omega),aK.keep ⟨ae,ae,ae,⟨ax (by omega),rfl⟩,trivial⟩ trivial⟩;rw[bO hx,bO hy,he,ks]
   .rw[show(x==y)=false by simp[ks]];conv=>whnf
    refine al rfl ?_;have:(a==b)=false:=by
     rw[beq_eq_false_iff_ne];intro e;rw[e,hy]at hx;exact ks (by cases hx;rfl)
    rw[this];rfl
  .obtain rfl:k=a.length:=by simp at h1;omega
   refine al rfl ?_;rw[List.take_length,hl,List.take_length]at he;rw[he,beq_self_eq_true];rfl
 .rw[show(((a.map aQ).length:Int) != ((b.map aQ).length:Int))=true by simp;omega];conv=>whnf
  refine al rfl ?_;have:(a==b)=false:=by
   rw[beq_eq_false_iff_ne];rintro rfl;exact hl rfl
  rw[this];rfl
theorem rH(z:aO)(s:Bs)(kind:Int)(data:List Datum)(hn:z.ak.length<=100000)(hd:(wfR z s kind).1.data.length<=200000):NQ.Fn cx 138 [.agg (aX z),.str s,.int .i64 kind,.slice 3 (data.map aQ)] (.d (.bool (mu z s kind data))) []:=by
 refine aT bo mixed Tryz.func138 ?_;conv=>whnf
 (refine⟨_,_,ni z s kind hn,?_⟩;conv=>whnf)
 refine aj (λh1=>?_) (λh1=>?_) <;> (rw[h1];conv=>whnf)
 . (refine⟨_,_,MT _ data hd,?_⟩;conv=>whnf)
   exact al rfl (by unfold mu;rw[h1];rfl)
 .exact al rfl (by unfold mu;rw[h1];rfl)
theorem vY(w:aZ)(l:List Int):NQ.Fn cx 69 [.agg (bu w),.slice 1 (l.map dj)] (.d (.bool (gR w l))) []:=by
 refine aT bo mixed Tryz.func69 ?_;conv=>whnf
 refine aj (λh0=>?_) (λh0=>?_) <;> (rw[h0];conv=>whnf)
 .exact al rfl (by unfold gR;simp only[aA]at h0;rw[h0];rfl)
 refine aj (λhU=>?_) (λhU=>?_) <;> (rw[hU];conv=>whnf)
 .exact al rfl (by unfold gR;simp only[aA]at h0 hU;rw[h0,hU];rfl)
 have hR:gR w l=lO w [] l:=by unfold gR;simp only[aA]at h0 hU;rw[h0,hU];rfl
 rw[hR];have hlen:l.length<=8:=by simp only[aA]at hU;have:=of_decide_eq_false hU;omega
 refine⟨Nat,λk=>⟨[(2,.ptr 2 0),(5,.omap 16),(17,.d (.slice 1 (l.map dj))),(18,.d (.int .i64 ((l.map dj).length:Int))),(19,.d (.int .i64 k))],[(2,.box ((bu w).map .d)),(16,.smap (qe ((l.take k).map (nameAt w))))]⟩,
  λk=>k<=l.length/\lO w ((l.take k).map (nameAt w)) (l.drop k)=lO w [] l,λk=>l.length-k,⟨0,⟨Nat.zero_le _,rfl⟩,aK.keep⟩,λk ⟨hk,hg⟩=>?_⟩
 dsimp only at hk hg ⊢;conv=>whnf
 refine aj (λh1=>?_) (λh1=>?_) <;> (rw[h1];conv=>whnf)
 .have hA:k<l.length:=by simpa using h1
  obtain⟨n,hn⟩:∃x,l[k]? =some x:=⟨_,au hA⟩
  rw[drop_cons hn,lO]at hg;refine⟨aC k,dj n,aM hn,?_⟩;conv=>whnf
  (refine⟨_,_,CL w n,?_⟩;conv=>whnf)
  refine aj (λh2=>?_) (λh2=>?_) <;> (rw[h2];conv=>whnf)
  .exact al rfl (by rw[<- hg];simp at h2;rw[h2];rfl)
  .have hh:bJ w n=true:=by simpa using h2
   have kq :=hh;unfold bJ at kq;simp only[aU,decide_eq_true_eq]at kq;obtain⟨h,hw⟩:∃h,w.ay[n.toNat]? =some h:=⟨_,au (by omega)⟩
   have kr:nameAt w n=h.name:=by unfold nameAt;rw[hw]
   rw[kr]at hg;refine⟨kq.1,fJ h,aM hw,?_⟩;conv=>whnf
   cases hc:((l.take k).map (nameAt w)).contains h.name with
   |true =>
    rw[show bG h.name (qe ((l.take k).map (nameAt w)))=some (.bool true) by rw[qf,hc];rfl];conv=>whnf
    exact al rfl (by rw[<- hg,hc,sd,ma,wX];rfl)
   |false =>
    rw[show bG h.name (qe ((l.take k).map (nameAt w)))=none by rw[qf,hc];rfl];conv=>whnf
    refine⟨kq.1,fJ h,aM hw,?_⟩;conv=>whnf
    refine⟨k+1,⟨hA,?_⟩,by(show l.length-(k+1)<l.length-k;omega),aK.keep ⟨ae,ae,ae,ae,⟨ax (by omega),rfl⟩,trivial⟩ ⟨ae,⟨?_,rfl⟩,trivial⟩⟩
    .rw[<- hg,hh,hc,bO hn,List.map_append];simp[kr]
    .show some (Blk.smap (cM h.name (.bool true) (qe ((l.take k).map (nameAt w)))))=_
     rw[Og hc,bO hn,List.map_append];simp[kr]
 .obtain rfl:k=l.length:=by simp at h1;omega
  exact al rfl (by rw[<- hg,List.drop_length];rfl)
def fb(host:Int)(af:Bs)(p:ao):Bool:=decide (p.host=host)&&(p.ah.af==af)
def ji(af:Bs)(x:Bs×Bool)(p:ao):Bs×Bool:=if ((p.ah.af != af)&&(bK af p.ah.af).1&&(!x.2||(bK p.ah.af x.1).1))=true then(p.ah.af,true)else x
def dO(af:Bs)(zs:List ao):Bs×Bool:=zs.foldl (ji af) ([],false)
def cH(zs:List ao)(af:Bs):aO×Bool:=if (dO af zs).2=true then(if (wfR (bS zs (dO af zs).1).1 af 2).2=true then((bS zs (dO af zs).1).1,true)else(iT,false))else(iT,false)
def RH:List D->Datum
 |[.str t,.int _ n,.int _ m]=>⟨t,n,m⟩
 |_=>⟨[],0,0⟩
def UL(x y:List D):Int:=fW (RH x) (RH y)
theorem jF(a b:Datum):fW a b=lex Go.Lib.compareBytes (lex dA dA) (a.text,a.n,a.m) (b.text,b.n,b.m):=rfl
theorem xT:jD fW:=by
 have h:=BV du (BV tR tR);refine⟨λa b=>?_,λa b=>?_,λa b=>?_,λa b c=>?_⟩
 .rw[jF];exact h.range _ _
 .rw[jF,h.zero];cases a;cases b;simp
 .rw[jF,jF];exact h.lH _ _
 .rw[jF,jF,jF];exact h.lt _ _ _
theorem jD.ok{α:Type}{c:α->α->Int}(h:jD c)(l:List α):lu c l:=by
 refine⟨λx _=>?_,λx _ y _ z _ h1 h2=>?_,λx _ y _ z _ h1 h2=>?_⟩
 .rw[(h.zero x x).2 rfl];omega
 .have:=h.UT h1 (Int.le_of_lt h2);exact this
 .have a1:=h.lH x y;have a2:=h.lH y z;have a3:=h.lH x z;have:=h.le_trans (a:=z) (b:=y) (c:=x) (by omega) (by omega);omega
theorem zR(l:List Datum):lu fW l:=xT.ok l
def nB(w:aZ)(n:Int):Datum:=⟨nameAt w n,0,0⟩
def dh(w:aZ)(l:List Int):List Datum:=gS fW (l.map (nB w))
theorem zK(a:Bs):∀(zs:List ao) (b:Option (Nat×ao)) (i:Nat),(∀j q,b=some (j,q)->q.ah.af=a) ->
 (∀j q,lz a b i zs=some (j,q)->q.ah.af=a/\(b=some (j,q)\/q∈zs))/\(lz a b i zs=none->b=none/\ ∀p∈zs,p.ah.af≠a)
 |[],b,i,hb=>⟨λj q h=>⟨hb j q h,.inl h⟩,λh=>⟨h,λp hp=>by cases hp⟩⟩
 |x::t,b,i,hb=>by
  have hs:∀j q,mi a b i x=some (j,q)->q.ah.af=a/\(b=some (j,q)\/q=x):=λj q h=>by
   unfold mi at h;split at h
   .exact⟨hb j q h,.inl h⟩
   .rename_i kj;have hx:x.ah.af=a:=by simpa using kj
    split at h
    .cases h;exact⟨hx,.inr rfl⟩
    .rename_i j' q';split at h
     .cases h;exact⟨hx,.inr rfl⟩
     .cases h;exact⟨hb _ _ rfl,.inl rfl⟩
  obtain⟨xb,xd⟩:=zK a t (mi a b i x) (i+1) λj q h=>(hs j q h).1
  refine⟨λj q h=>?_,λh=>?_⟩
  .obtain⟨h1,h2⟩:=xb j q h;refine⟨h1,?_⟩;rcases h2 with h2|h2
   .rcases (hs j q h2).2 with h3|rfl
    .exact .inl h3
    .exact .inr (List.mem_cons_self ..)
   .exact .inr (bC _ h2)
  .obtain⟨h1,h2⟩:=xd h;unfold mi at h1;split at h1
   .rename_i kj;exact⟨h1,λp hp=>by
     rcases List.mem_cons.1 hp with rfl|hp
     .simpa using kj
     .exact h2 p hp⟩
   .split at h1
    .cases h1
    .split at h1 <;> cases h1
theorem eW(zs:List ao)(a:Bs):(∃p∈zs,bS zs a=(p.ah,true)/\p.ah.af=a)\/(bS zs a=(iT,false)/\ ∀p∈zs,p.ah.af≠a):=by
 obtain⟨h1,h2⟩:=zK a zs none 0 λj q h=>by cases h
 unfold bS tS;cases h:lz a none 0 zs with
 |none=>exact .inr ⟨rfl,(h2 h).2⟩
 |some jq =>
  obtain⟨j,q⟩:=jq;obtain⟨g1,g2⟩:=h1 j q h;rcases g2 with g2|g2
  .cases g2
  .exact .inl ⟨q,g2,rfl,g1⟩
theorem CA{zs:List ao}(hv:∀p∈zs,bf p.ah=true)(a:Bs):(bS zs a).1.ak.length<=100000:=by
 rcases eW zs a with ⟨p,hp,h,_⟩|⟨h,_⟩
 .rw[h];have:=(bQ (hv p hp)).few;(show p.ah.ak.length<=100000);omega
 .rw[h];exact Nat.zero_le _
theorem bR{cx cx' :Cx}(h1:cx'.P=cx.P)(h2:cx'.gl=cx.gl){pv:Int->Value}{f:FuncId}{args:List AV}{h:List (Nat×Blk)}{out:Option (AV×List (Nat×Blk))}(hf:FnP cx pv f args h out):FnP cx' pv f args h out:=by
 unfold FnP gq jC at *
 rw[h1,h2];exact hf
noncomputable def cxO:Cx:={cx with chg:=gX [(62,10),(124,2)]}
theorem tyO:bD cxO:=bo
theorem Av:cxO.P.follows .mixedOrders=true:=mixed
theorem rp(w:aZ)(af:Bs)(hv:∀p∈w.ai,bf p.ah=true)(hn:w.ai.length<=100000) :
 FnP cxO pv0 112 [.agg (gJ w),.d (.str af)] [] (some (.tuple [.agg ((aX (cH w.ai af).1).map .d),.d (.bool (cH w.ai af).2)],[])):=by
 refine bt [] (fun|0=>[33333]|11=>[33333]|_=>[]) tyO Av Tryz.func112 ?_;conv=>whnf
 refine⟨Nat×Bs×Bool,λx=>⟨[(1,.d (.str af)),(2,.ptr 2 0),(4,.ptr 4 0),(6,.d (.str x.2.1)),(7,.d (.bool x.2.2)),(17,.d (.slice 3 (w.ai.map aR))),(18,.d (.int .i64 ((w.ai.map aR).length:Int))),(19,.d (.int .i64 x.1))],[(2,.box (gJ w)),(4,.box [.d (.str []),.nil 5])]⟩,
  λx=>x.1<=w.ai.length/\x.2=dO af (w.ai.take x.1),λx=>w.ai.length-x.1,⟨(0,[],false),⟨Nat.zero_le _,rfl⟩,aq.keep⟩,?_⟩
 rintro⟨k,l,b⟩ ⟨hk,hx⟩;dsimp only at hk hx;conv=>whnf
 refine aj (λh1=>?_) (λh1=>?_) <;> (rw[h1];conv=>whnf)
 .have hA:k<w.ai.length:=by simpa using h1
  obtain⟨p,hp⟩:∃x,w.ai[k]? =some x:=⟨_,au hA⟩
  have hS:dO af (w.ai.take (k+1))=ji af (l,b) p:=by
   rw[bO hp,hx];unfold dO;rw[List.foldl_append];rfl
  have yes:((p.ah.af != af)&&(bK af p.ah.af).1&&(!b||(bK p.ah.af l).1))=true->(p.ah.af,true)=dO af (w.ai.take (k+1)):=λh=>by rw[hS,ji,if_pos h]
  have no:((p.ah.af != af)&&(bK af p.ah.af).1&&(!b||(bK p.ah.af l).1))=false->(l,b)=dO af (w.ai.take (k+1)):=λh=>by rw[hS,ji,if_neg (by rw[h];decide)]
  refine⟨aC k,aR p,aM hp,?_⟩;conv=>whnf
  have hY:(p.ah.af != af)= !(p.ah.af==af):=rfl
  repeat' (first|(refine⟨_,_,nC af p.ah.af,?_⟩;conv=>whnf)|(refine⟨_,_,nC p.ah.af l,?_⟩;conv=>whnf)|(refine aj (λh=>?_) (λh=>?_) <;> (rw[h];conv=>whnf))|fail)
  all_goals first
   |(refine⟨(k+1,p.ah.af,true),⟨hA,yes (by simp only[hY, *, if_true,if_false,aY])⟩,by(show w.ai.length-(k+1)<w.ai.length-k;omega),aq.keep ⟨ae,ae,ae,ae,ae,ae,ae,⟨ax (k:=k) (by omega),rfl⟩,trivial⟩⟩;done)
   |(refine⟨(k+1,l,b),⟨hA,no (by simp only[hY, *, if_true,if_false,aY])⟩,by(show w.ai.length-(k+1)<w.ai.length-k;omega),aq.keep ⟨ae,ae,ae,ae,ae,ae,ae,⟨ax (k:=k) (by omega),rfl⟩,trivial⟩⟩;done)
   |(subst_vars;refine⟨(k+1,l,true),⟨hA,no (by simp only[hY, *, if_true,if_false,aY])⟩,by(show w.ai.length-(k+1)<w.ai.length-k;omega),aq.keep ⟨ae,ae,ae,ae,ae,ae,ae,⟨ax (k:=k) (by omega),rfl⟩,trivial⟩⟩;done)
 .obtain rfl:k=w.ai.length:=by simp at h1;omega
  rw[List.take_length]at hx;have hz:cH w.ai af=if b=true then(if (wfR (bS w.ai l).1 af 2).2=true then((bS w.ai l).1,true)else(iT,false))else(iT,false):=by unfold cH;rw[<- hx]
  rw[hz];refine aj (λh2=>?_) (λh2=>?_) <;> (rw[h2];conv=>whnf)
  .have hb:b=false:=by simpa using h2
   subst hb;exact cq rfl rfl rfl
  have hb:b=true:=by simpa using h2
  subst hb;have hC:=bR (cx' :=cxO) rfl rfl (jm w l hv hn);refine⟨[2,4],_,hC,⟨rfl,rfl,rfl⟩,?_⟩;conv=>whnf
  refine aL ?_;conv=>whnf
  (refine⟨_,_,ni (bS w.ai l).1 af 2 (CA hv l),?_⟩;conv=>whnf)
  refine aj (λh3=>?_) (λh3=>?_) <;> (rw[h3];conv=>whnf)
  .have h4:(wfR (bS w.ai l).1 af 2).2=false:=by simpa using h3
   rw[h4];exact cq rfl rfl rfl
  .have h4:(wfR (bS w.ai l).1 af 2).2=true:=by simpa using h3
   rw[h4];exact cq rfl rfl rfl
theorem Hy(p:ao)(host:Int)(af:Bs):NQ.Fn cx 180 [.agg (aR p),.ptr [.int .i64 host],.ptr [.str af]] (.d (.bool (fb host af p))) []:=by
 refine aT bo mixed Tryz.func180 ?_;conv=>whnf
 repeat' (first|(refine aj (λh=>?_) (λh=>?_) <;> (rw[h];conv=>whnf))|fail)
 all_goals (refine al rfl ?_;show AV.d (D.bool _)=AV.d (D.bool _);congr 2;unfold fb;(try simp_all))
theorem Qd(l:List ao)(p:ao->Bool)(x y:D)(hn:l.length<=100000)(hf:∀s∈l,NQ.Fn cx 180 [.agg (aR s),x,y] (.d (.bool (p s))) []) :
 NQ.Fn cx 222 [.slice 3 (l.map aR),.fn 180 [] [x,y]] (.d (.int .i64 (match l.findIdx? p with|some k=>(k:Int)|none=> -1))) []:=by
 refine aT bo mixed Tryz.func222 ?_;conv=>whnf
 refine⟨Nat,λk=>⟨[(0,.d (.slice 3 (l.map aR))),(1,.d (.fn 180 [] [x,y])),(7,.d (.int .i64 ((l.map aR).length:Int))),(8,.d (.int .i64 k))],[]⟩,λk=>k<=l.length/\ ∀j y,j<k->l[j]? =some y->p y=false,λk=>l.length-k,
  ⟨0,⟨by omega,λj y h=>by omega⟩,aK.keep ⟨ae,ae,ae,ae,trivial⟩ trivial⟩,λk hk=>?_⟩
 obtain⟨hk,hD⟩:=hk;conv=>whnf
 refine aj (λh1=>?_) (λh1=>?_) <;> (rw[h1];conv=>whnf)
 .have hA:k<l.length:=by simp at h1;omega
  obtain⟨s,hs⟩:∃s,l[k]? =some s:=⟨_,au hA⟩
  refine⟨aC k,aR s,aM hs,?_⟩;conv=>whnf
  (refine⟨_,_,hf s (aD hs),?_⟩;conv=>whnf)
  refine aj (λh2=>?_) (λh2=>?_) <;> (rw[h2];conv=>whnf)
  .refine al rfl ?_;have:l.findIdx? p=some k:=by
    rw[List.findIdx?_eq_some_iff_getElem];obtain⟨g1,g2⟩:=aB.1 hs;refine⟨g1,by rw[g2];exact h2,λj hj=>?_⟩;have:=hD j (l[j]) hj (au (by omega));rw[this];decide
   rw[this];rfl
  .refine⟨k+1,⟨hA,λj y hj hy=>?_⟩,by(show l.length-(k+1)<l.length-k;omega),aK.keep ⟨ae,ae,ae,⟨ax (by omega),rfl⟩,trivial⟩ trivial⟩;rcases Nat.lt_succ_iff_lt_or_eq.1 hj with hj|rfl
   .exact hD j y hj hy
   .rw[hs]at hy;cases hy;exact h2
 .obtain rfl:k=l.length:=by simp at h1;omega
  refine al rfl ?_;have:l.findIdx? p=none:=by
   rw[List.findIdx?_eq_none_iff];intro x hx;obtain⟨i,hi⟩:=cQ hx;exact hD i x (aB.1 hi).1 hi
  rw[this];rfl
theorem ya{α:Type}(p:α->Bool)(l:List α):decide ((match l.findIdx? p with|some k=>(k:Int)|none=> -1)>=0)=l.any p:=by
 cases h:l.findIdx? p with
 |some k =>
  obtain⟨h1,h2,_⟩:=List.findIdx?_eq_some_iff_getElem.1 h;have:l.any p=true:=List.any_eq_true.2 ⟨_,List.getElem_mem h1,h2⟩;rw[this,decide_eq_true];exact aC k
 |none =>
  have:l.any p=false:=by
   rw[<- Bool.not_eq_true,List.any_eq_true];rintro⟨x,hx,hp⟩;have:=List.findIdx?_eq_none_iff.1 h x hx;rw[this]at hp;cases hp
  rw[this];rfl
theorem Pd(l:List ao)(p:ao->Bool)(x y:D)(hn:l.length<=100000)(hf:∀s∈l,NQ.Fn cx 180 [.agg (aR s),x,y] (.d (.bool (p s))) []) :
 NQ.Fn cx 179 [.slice 3 (l.map aR),.fn 180 [] [x,y]] (.d (.bool (l.any p))) []:=by
 refine aT bo mixed Tryz.func179 ?_;conv=>whnf
 (refine⟨_,_,Qd l p x y hn hf,?_⟩;conv=>whnf)
 refine al rfl ?_;show AV.d (D.bool (decide ((match l.findIdx? p with|some k=>(k:Int)|none=> -1)>=0)))=_
 rw[ya]
theorem kZ(w:aZ)(host:Int)(af:Bs)(hn:w.ai.length<=100000) :
 FnP cxO pv0 113 [.agg (gJ w),.d (.int .i64 host),.d (.str af)] [] (some (.d (.bool (w.ai.any (fb host af))),[])):=by
 refine bt [] (fun|0=>[33333]|_=>[]) tyO Av Tryz.func113 ?_;conv=>whnf
 (refine⟨_,Pd w.ai (fb host af) _ _ hn (λp _=>Hy p host af),rfl,?_⟩;conv=>whnf)
 exact cq rfl rfl rfl trivial
theorem De(l:List Datum)(hl:l.length<=100000)(fl:Bool):FnR cx 124 false 70 3 (l.map aQ) fl [.fn 125 [] []] ((gS fW l).map aQ):=by
 rw[<- Df aQ fW UL l λx _ y _=>rfl];exact Gv (cx:=cx) (ρ:=Tryz.yt) Tryz.Tr (k:=3) Tryz.isAgg70 Tryz.sizeOf70 ⟨_,Tryz.func124,by kernel_rfl,rfl⟩
  (λx hx y hy=>by
   obtain⟨a,ha,rfl⟩:=List.mem_map.1 hx;obtain⟨b,hb,rfl⟩:=List.mem_map.1 hy;exact FT a b) (enters_of Tryz.func125 (by kernel_rfl) rfl) ((zR l).map λx _ y _=>rfl) (by rw[aA];omega)
theorem sC(w:aZ)(l:List Int)(hl:l.length<=1000)(hh:∀n∈l,bJ w n=true) :
 FnP cxO pv0 117 [.agg (gJ w),.d (.slice 1 (l.map dj))] [] (some (.d (.slice 3 ((dh w l).map aQ)),[])):=by
 refine bt [] (fun|0=>[33333]|_=>[]) tyO Av Tryz.func117 ?_;conv=>whnf
 refine⟨Nat,λk=>⟨[(2,.ptr 2 0),(5,.own 55),(8,.d (.slice 1 (l.map dj))),(9,.d (.int .i64 ((l.map dj).length:Int))),(10,.d (.int .i64 k))],[(2,.box (gJ w)),(55,.row 70 3 (((l.take k).map (nB w)).map aQ))]⟩,λk=>k<=l.length,λk=>l.length-k,
  ⟨0,Nat.zero_le _,(aq.jV 5 55 3 70 3 rfl rfl (by decide)).trans (aq.keep)⟩,λk hk=>?_⟩
 conv=>whnf
 refine aj (λh1=>?_) (λh1=>?_) <;> (rw[h1];conv=>whnf)
 .have hA:k<l.length:=by simp at h1;omega
  obtain⟨n,hn⟩:∃s,l[k]? =some s:=⟨_,au hA⟩
  have hw:=hh n (aD hn);unfold bJ at hw;simp only[aU,decide_eq_true_eq]at hw;obtain⟨h,kD⟩:∃h,w.ay[n.toNat]? =some h:=⟨_,au (by omega)⟩
  refine⟨aC k,dj n,aM hn,?_⟩;conv=>whnf
  refine⟨hw.1,fJ h,aM kD,?_⟩;conv=>whnf
  have hS:((l.take (k+1)).map (nB w)).map aQ=((l.take k).map (nB w)).map aQ++[[.str h.name,.int .i64 0,.int .i64 0]]:=by
   rw[bO hn,List.map_append,List.map_append]
   congr 1
   show[aQ (nB w n)]=_
   unfold nB nameAt;rw[kD];rfl
  refine⟨by simp;omega,by simp;omega,?_⟩;conv=>whnf
  refine⟨k+1,hA,by(show l.length-(k+1)<l.length-k;omega),aq.keep ⟨ae,ae,ae,ae,⟨ax (k:=k) (by omega),rfl⟩,trivial⟩ ⟨ae,⟨congrArg (λr=>some (Blk.row 70 3 r)) hS.symm,rfl⟩,trivial⟩⟩
 .obtain rfl:k=l.length:=by simp at h1;omega
  rw[List.take_length];have kJ:=λfl=>De (l.map (nB w)) (by simp;omega) fl
  rw[show gS fW (l.map (nB w))=dh w l from rfl]at kJ;refine⟨_,kJ _,?_⟩;generalize dh w l=sv;conv=>whnf
  exact Gl [55] rfl rfl rfl
structure bA where
 kind:Int
 ah:Bs
 name:Bs
 ay:List Int
 key:cR
 deriving DecidableEq
def bj(x:bA):List D:=[.int .i64 x.kind,.str x.ah,.str x.name,.slice 1 (x.ay.map dj),.int .i64 x.key.n,.int .i64 x.key.alg]
def ra(w:aZ)(z:aO)(s:Bs):Bool:= !(!qT s||(s==z.af)|| !(bK s z.af).1)&&(!(bS w.ai s).2&&(((pA z s).2.2==0)&& !(pA z s).2.1))
def nS(k:cR):Bool:=(k.n==0)&&((k.alg==0)&&true)
def qQ(w:aZ)(l:List Int):Bool:=match l with|[n]=>bJ w n|_=>false
theorem AE{w:aZ}{l:List Int}(h:l.length≠1):qQ w l=false:=by
 match l,h with
 |[],_=>rfl
 |[n],h=>exact absurd rfl h
 |_::_::_,_=>rfl
def kA(w:aZ)(x:bA):Bool :=
 if x.kind=1 then(x.name==[])&&nS x.key&&gR w x.ay
 else if x.kind=2 then(x.name==[])&&decide ((x.ay.length:Int)=0)&&BS x.key
 else if x.kind=3 then qT x.name&&nS x.key&&qQ w x.ay
 else if x.kind=4 then ra w (bS w.ai x.ah).1 x.name&&gR w x.ay&&BS x.key
 else false
def fQ(w:aZ)(x:bA):Bool:= !(!fm w||(x.ah==[46]))&&((bS w.ai x.ah).2&&kA w x)
noncomputable def cxV:Cx:={cx with chg:=gX [(62,10),(77,10)]}
theorem tyV:bD cxV:=bo
theorem Uh:cxV.P.follows .mixedOrders=true:=mixed
theorem Iu(w:aZ)(z:aO)(s:Bs)(hv:∀p∈w.ai,bf p.ah=true)(hn:w.ai.length<=100000) :
 FnP cxO pv0 77 [.agg (gJ w),.agg ((aX z).map .d),.d (.str s)] [] (some (.d (.bool (ra w z s)),[])):=by
 refine bt [] (fun|0=>[33333]|3=>[33333]|_=>[]) tyO Av Tryz.func77 ?_;conv=>whnf
 (refine⟨_,_,plain_fn s,?_⟩;conv=>whnf)
 have hG:(!qT s||(s==z.af)|| !(bK s z.af).1)=true->ra w z s=false:=λh=>by unfold ra;rw[h];rfl
 repeat' (first|(refine⟨_,_,nC s z.af,?_⟩;conv=>whnf)|(refine aj (λh=>?_) (λh=>?_) <;> (rw[h];conv=>whnf))|fail)
 all_goals first
  |exact cq rfl (by rw[hG (by simp only[*, if_true,if_false,aY])];rfl) rfl trivial
  |skip
 have hN:(!qT s||(s==z.af)|| !(bK s z.af).1)=false:=by simp only[*, if_true,if_false,aY]
 have hW:ra w z s=(!(bS w.ai s).2&&(((pA z s).2.2==0)&& !(pA z s).2.1)):=by unfold ra;rw[hN];rfl
 rw[hW];have hC:=bR (cx' :=cxO) rfl rfl (jm w s hv hn);refine⟨[3,4],_,hC,⟨rfl,rfl,rfl⟩,?_⟩;conv=>whnf
 refine aL ?_;conv=>whnf
 refine aj (λh3=>?_) (λh3=>?_) <;> (rw[h3];conv=>whnf)
 .exact cq rfl rfl rfl trivial
 . (refine⟨_,_,TL z s,?_⟩;conv=>whnf)
   repeat' (first|(refine aj (λh=>?_) (λh=>?_) <;> (rw[h];conv=>whnf))|fail)
   all_goals exact cq rfl (by(try simp only[*, if_true,if_false,aY]);rfl) rfl trivial
theorem pL(w:aZ)(x:bA)(hF:va w) :
 FnP cxV pv0 32 [.agg ((bu w).map .d),.agg ((bj x).map .d)] [] (some (.d (.bool (fQ w x)),[])):=by
 refine bt [] (fun|4=>[33333]|16=>[33333]|_=>[]) tyV Uh Tryz.func32 ?_;conv=>whnf
 have hn:w.ai.length<=100000:=by have:=hF.ai;omega
 (refine⟨_,_,wP w hF,?_⟩;conv=>whnf)
 have hG:(!fm w||(x.ah==[46]))=true->fQ w x=false:=λh=>by unfold fQ;rw[h];rfl
 repeat' (first|(refine aj (λh=>?_) (λh=>?_) <;> (rw[h];conv=>whnf))|fail)
 all_goals first
  |exact cq rfl (by rw[hG (by simp only[*, if_true,if_false,aY])];rfl) rfl trivial
  |skip
 have hN:(!fm w||(x.ah==[46]))=false:=by simp only[*, if_true,if_false,aY]
 have kY:fm w=true:=by cases h:fm w <;> simp_all
 have hv:=λp hp=>(gN kY p hp).1
 have hW:fQ w x=((bS w.ai x.ah).2&&kA w x):=by unfold fQ;rw[hN];rfl
 rw[hW];have hC:=bR (cx' :=cxV) rfl rfl (jm w x.ah hv hn);refine⟨[2,3,5],_,hC,⟨rfl,rfl,rfl⟩,?_⟩;conv=>whnf
 refine aL ?_;conv=>whnf
 refine aj (λh3=>?_) (λh3=>?_) <;> (rw[h3];conv=>whnf)
 .have h4:(bS w.ai x.ah).2=false:=by simpa using h3
  exact cq rfl (by rw[h4];rfl) rfl trivial
 have h4:(bS w.ai x.ah).2=true:=by simpa using h3
 rw[h4,iS];by_cases k1:x.kind=1
 .have hk:kA w x=((x.name==[])&&nS x.key&&gR w x.ay):=by unfold kA;rw[if_pos k1]
  rw[hk,show(x.kind==1)=true by simp[k1]];conv=>whnf
  repeat' (first|(refine⟨_,_,vY w x.ay,?_⟩;conv=>whnf)|(refine aj (λh=>?_) (λh=>?_) <;> (rw[h];conv=>whnf))|fail)
  all_goals exact cq rfl (by clear hW hC hG hv hN;refine congrArg (λb=>AV.d (D.bool b)) ?_;(try unfold nS);(try simp_all)) rfl trivial
 rw[show(x.kind==1)=false by simp[k1]];conv=>whnf
 by_cases k2:x.kind=2
 .have hk:kA w x=((x.name==[])&&decide ((x.ay.length:Int)=0)&&BS x.key):=by unfold kA;rw[if_neg k1,if_pos k2]
  rw[hk,show(x.kind==2)=true by simp[k2]];conv=>whnf
  repeat' (first|(refine⟨_,_,Jn x.key,?_⟩;conv=>whnf)|(refine aj (λh=>?_) (λh=>?_) <;> (rw[h];conv=>whnf))|fail)
  all_goals exact cq rfl (by clear hW hC hG hv hN;refine congrArg (λb=>AV.d (D.bool b)) ?_;(try unfold nS);(try simp_all)) rfl trivial
 rw[show(x.kind==2)=false by simp[k2]];conv=>whnf
 by_cases k3:x.kind=3
 .have hk:kA w x=(qT x.name&&nS x.key&&qQ w x.ay):=by unfold kA;rw[if_neg k1,if_neg k2,if_pos k3]
  rw[hk,show(x.kind==3)=true by simp[k3]];conv=>whnf
  (refine bV ?_;conv=>whnf)
  repeat' (first|(refine⟨_,_,plain_fn x.name,?_⟩;conv=>whnf)|(refine aj (λh=>?_) (λh=>?_) <;> (rw[h];conv=>whnf))|fail)
  all_goals first
   |exact cq rfl (by clear hW hC hG hv hN;refine congrArg (λb=>AV.d (D.bool b)) ?_;(try unfold nS);(try simp_all);(first|done|rfl|exact AE (by omega))) rfl trivial
   |skip
  obtain⟨n,kR⟩:∃n,x.ay=[n]:=by
   have h6:x.ay.length=1:=by
    simp only[aA,beq_iff_eq]at *;omega
   match x.ay,h6 with
   |[n],_=>exact⟨n,rfl⟩
  refine⟨Int.le_refl 0,dj n,by rw[kR];rfl,?_⟩;conv=>whnf
  (refine⟨_,_,CL w n,?_⟩;conv=>whnf)
  exact cq rfl (by clear hW hC hG hv hN;refine congrArg (λb=>AV.d (D.bool b)) ?_;(try unfold nS);(try simp_all);(first|done|rfl|exact AE (by omega))) rfl trivial
 rw[show(x.kind==3)=false by simp[k3]];conv=>whnf
 by_cases k4:x.kind=4
 .have hk:kA w x=(ra w (bS w.ai x.ah).1 x.name&&gR w x.ay&&BS x.key):=by unfold kA;rw[if_neg k1,if_neg k2,if_neg k3,if_pos k4]
  rw[hk,show(x.kind==4)=true by simp[k4]];conv=>whnf
  have hS:=bR (cx' :=cxV) rfl rfl (Iu w (bS w.ai x.ah).1 x.name hv hn);refine⟨[2,3,5,6],_,hS,⟨rfl,rfl,rfl⟩,?_⟩;conv=>whnf
  refine aL ?_;conv=>whnf
  repeat' (first|(refine⟨_,_,Jn x.key,?_⟩;conv=>whnf)|(refine⟨_,_,vY w x.ay,?_⟩;conv=>whnf)|(refine aj (λh=>?_) (λh=>?_) <;> (rw[h];conv=>whnf))|fail)
  all_goals exact cq rfl (by clear hW hC hG hv hN;refine congrArg (λb=>AV.d (D.bool b)) ?_;(try unfold nS);(try simp_all)) rfl trivial
 rw[show(x.kind==4)=false by simp[k4]];conv=>whnf
 have hk:kA w x=false:=by unfold kA;rw[if_neg k1,if_neg k2,if_neg k3,if_neg k4]
 exact cq rfl (by rw[hk];rfl) rfl trivial
def qz(s:cG)(g:Sig)(k:cR):Bool:=((lC s g.ah k g.since g.aN).2==0)&&decide ((lC s g.ah k g.since g.aN).1=g)
def eqK(a b:cR):Bool:=decide (a=b)
def DY(ah:Bs)(at_ hE:Int)(g:Sig):Bool:= !((!(g.ah==ah))||decide (g.since>IntKind.i64.wrap (at_-hE))||decide (g.aN<IntKind.i64.wrap (at_+hE)))
def zl(s:cG)(ah:Bs)(keys:List cR)(at_ hE:Int)(g:Sig):Bool:=DY ah at_ hE g&&(keys.find? (qz s g)).isSome
def gM(a d:Int):Bool:=decide (a>=0)&&(decide (a<=10000000)&&(decide (d>=0)&&decide (d<=1000)))
def xF(s:Signed)(ah:Bs)(keys:List cR)(at_ hE:Int):Bool:=gM at_ hE&&(s.sigs.find? (zl s.set ah keys at_ hE)).isSome
def qk(a b:cG):List cR:=(cK b).filter λk=>((cK a).find? λt=>eqK t k).isSome
def mL(a:cG)(s:Signed)(at_ hE:Int):Bool:=(ee a&&(a.type==6))&&((ee s.set&&((s.set.type==7)&&(s.set.name==a.name)))&&xF s a.name (qk a s.set) at_ hE)
def Bz:cR:=⟨0,0⟩
def nH{α:Type}(z:α)(p:α->Bool)(l:List α):α:=(l.find? p).getD z
theorem UZ(a b:cR):(a.n==b.n&&(a.alg==b.alg&&true))=eqK a b:=by
 obtain⟨an,ag⟩:=a;obtain⟨bn,bg⟩:=b;unfold eqK;rw[iG];by_cases h1:an=bn <;> by_cases h2:ag=bg <;> simp[h1,h2]
theorem Va(a b:Sig):(a.ah==b.ah&&(a.key==b.key&&(a.alg==b.alg&&(a.since==b.since&&(a.aN==b.aN&&(a.sum==b.sum&&true))))))=decide (a=b):=by
 obtain⟨a1,a2,a3,a4,a5,a6⟩:=a;obtain⟨b1,b2,b3,b4,b5,b6⟩:=b;rw[iG];by_cases h1:a1=b1 <;> by_cases h2:a2=b2 <;> by_cases h3:a3=b3 <;> by_cases h4:a4=b4 <;> by_cases h5:a5=b5 <;> by_cases h6:a6=b6 <;> simp[h1,h2,h3,h4,h5,h6]
theorem Ps(s:cG)(g:Sig)(k:cR):NQ.Fn cx 102 [.agg (cg s),.agg (gK g),.agg (cd k)] (.d (.bool (qz s g k))) []:=by
 refine aT bo mixed Tryz.func102 ?_;conv=>whnf
 (refine⟨_,_,JL s g.ah k g.since g.aN,?_⟩;conv=>whnf)
 unfold qz;obtain⟨r,e,hr⟩:∃r e,lC s g.ah k g.since g.aN=(r,e):=⟨_,_,rfl⟩
 rw[hr];conv=>whnf
 cases he:(e==0)with
 |false =>
  conv=>whnf
  exact al rfl rfl
 |true =>
  conv=>whnf
  refine al rfl ?_;show AV.d (D.bool (r.ah==g.ah&&_))=_
  rw[iS, <- Va]
theorem MV(l:List cR)(p:cR->Bool)(x:D)(hn:l.length<=100000)(hf:∀s∈l,NQ.Fn cx 51 [.agg (cd s),x] (.d (.bool (p s))) []) :
 NQ.Fn cx 50 [.slice 2 (l.map cd),.fn 51 [] [x]] (.tuple [.agg ((cd (nH Bz p l)).map .d),.d (.bool (l.find? p).isSome)]) []:=by
 refine aT bo mixed Tryz.func50 ?_;conv=>whnf
 refine⟨Nat,λk=>⟨[(1,.d (.fn 51 [] [x])),(4,.ptr 4 0),(9,.d (.slice 2 (l.map cd))),(10,.d (.int .i64 ((l.map cd).length:Int))),(11,.d (.int .i64 k))],[(4,.box ((cd Bz).map .d))]⟩,λk=>k<=l.length/\(l.take k).find? p=none,λk=>l.length-k,
  ⟨0,⟨by omega,rfl⟩,aK.keep⟩,λk hk=>?_⟩
 obtain⟨hk,hD⟩:=hk;conv=>whnf
 refine aj (λh1=>?_) (λh1=>?_) <;> (rw[h1];conv=>whnf)
 .have hA:k<l.length:=by simp at h1;omega
  obtain⟨s,hs⟩:∃s,l[k]? =some s:=⟨_,au hA⟩
  refine⟨aC k,cd s,aM hs,?_⟩;conv=>whnf
  (refine⟨_,_,hf s (aD hs),?_⟩;conv=>whnf)
  have hl:l=l.take k++s::l.drop (k+1):=by
   rw[show s=l[k]'hA from(aB.1 hs).2.symm];simp
  refine aj (λh2=>?_) (λh2=>?_) <;> (rw[h2];conv=>whnf)
  .have kh:l.find? p=some s:=by
    rw[hl,List.find?_append,hD,List.find?_cons,h2];rfl
   refine al rfl ?_;unfold nH;rw[kh];rfl
  .exact⟨k+1,⟨hA,by rw[bO hs,List.find?_append,hD,List.find?_cons,h2];rfl⟩,by(show l.length-(k+1)<l.length-k;omega),aK.keep ⟨ae,ae,ae,ae,⟨ax (by omega),rfl⟩,trivial⟩⟩
 .obtain rfl:k=l.length:=by simp at h1;omega
  rw[List.take_length]at hD;refine al rfl ?_;unfold nH;rw[hD];rfl
theorem MW(l:List cR)(p:cR->Bool)(x y:D)(hn:l.length<=100000)(hf:∀s∈l,NQ.Fn cx 101 [.agg (cd s),x,y] (.d (.bool (p s))) []) :
 NQ.Fn cx 50 [.slice 2 (l.map cd),.fn 101 [] [x,y]] (.tuple [.agg ((cd (nH Bz p l)).map .d),.d (.bool (l.find? p).isSome)]) []:=by
 refine aT bo mixed Tryz.func50 ?_;conv=>whnf
 refine⟨Nat,λk=>⟨[(1,.d (.fn 101 [] [x,y])),(4,.ptr 4 0),(9,.d (.slice 2 (l.map cd))),(10,.d (.int .i64 ((l.map cd).length:Int))),(11,.d (.int .i64 k))],[(4,.box ((cd Bz).map .d))]⟩,λk=>k<=l.length/\(l.take k).find? p=none,λk=>l.length-k,
  ⟨0,⟨by omega,rfl⟩,aK.keep⟩,λk hk=>?_⟩
 obtain⟨hk,hD⟩:=hk;conv=>whnf
 refine aj (λh1=>?_) (λh1=>?_) <;> (rw[h1];conv=>whnf)
 .have hA:k<l.length:=by simp at h1;omega
  obtain⟨s,hs⟩:∃s,l[k]? =some s:=⟨_,au hA⟩
  refine⟨aC k,cd s,aM hs,?_⟩;conv=>whnf
  (refine⟨_,_,hf s (aD hs),?_⟩;conv=>whnf)
  have hl:l=l.take k++s::l.drop (k+1):=by
   rw[show s=l[k]'hA from(aB.1 hs).2.symm];simp
  refine aj (λh2=>?_) (λh2=>?_) <;> (rw[h2];conv=>whnf)
  .have kh:l.find? p=some s:=by
    rw[hl,List.find?_append,hD,List.find?_cons,h2];rfl
   refine al rfl ?_;unfold nH;rw[kh];rfl
  .exact⟨k+1,⟨hA,by rw[bO hs,List.find?_append,hD,List.find?_cons,h2];rfl⟩,by(show l.length-(k+1)<l.length-k;omega),aK.keep ⟨ae,ae,ae,ae,⟨ax (by omega),rfl⟩,trivial⟩⟩
 .obtain rfl:k=l.length:=by simp at h1;omega
  rw[List.take_length]at hD;refine al rfl ?_;unfold nH;rw[hD];rfl
theorem PN(l:List Sig)(p:Sig->Bool)(x1 x2 x3 x4 x5:D)(hn:l.length<=100000)(hf:∀s∈l,NQ.Fn cx 100 [.agg (gK s),x1,x2,x3,x4,x5] (.d (.bool (p s))) []) :
 NQ.Fn cx 99 [.slice 6 (l.map gK),.fn 100 [] [x1,x2,x3,x4,x5]] (.tuple [.agg ((gK (nH xL p l)).map .d),.d (.bool (l.find? p).isSome)]) []:=by
 refine aT bo mixed Tryz.func99 ?_;conv=>whnf
 refine⟨Nat,λk=>⟨[(1,.d (.fn 100 [] [x1,x2,x3,x4,x5])),(4,.ptr 4 0),(9,.d (.slice 6 (l.map gK))),(10,.d (.int .i64 ((l.map gK).length:Int))),(11,.d (.int .i64 k))],[(4,.box ((gK xL).map .d))]⟩,λk=>k<=l.length/\(l.take k).find? p=none,λk=>l.length-k,
  ⟨0,⟨by omega,rfl⟩,aK.keep⟩,λk hk=>?_⟩
 obtain⟨hk,hD⟩:=hk;conv=>whnf
 refine aj (λh1=>?_) (λh1=>?_) <;> (rw[h1];conv=>whnf)
 .have hA:k<l.length:=by simp at h1;omega
  obtain⟨s,hs⟩:∃s,l[k]? =some s:=⟨_,au hA⟩
  refine⟨aC k,gK s,aM hs,?_⟩;conv=>whnf
  (refine⟨_,_,hf s (aD hs),?_⟩;conv=>whnf)
  have hl:l=l.take k++s::l.drop (k+1):=by
   rw[show s=l[k]'hA from(aB.1 hs).2.symm];simp
  refine aj (λh2=>?_) (λh2=>?_) <;> (rw[h2];conv=>whnf)
  .have kh:l.find? p=some s:=by
    rw[hl,List.find?_append,hD,List.find?_cons,h2];rfl
   refine al rfl ?_;unfold nH;rw[kh];rfl
  .exact⟨k+1,⟨hA,by rw[bO hs,List.find?_append,hD,List.find?_cons,h2];rfl⟩,by(show l.length-(k+1)<l.length-k;omega),aK.keep ⟨ae,ae,ae,ae,⟨ax (by omega),rfl⟩,trivial⟩⟩
 .obtain rfl:k=l.length:=by simp at h1;omega
  rw[List.take_length]at hD;refine al rfl ?_;unfold nH;rw[hD];rfl
theorem Ib(t k:cR):NQ.Fn cx 51 [.agg (cd t),.ptr (cd k)] (.d (.bool (eqK t k))) []:=by
 refine aT bo mixed Tryz.func51 ?_;conv=>whnf
 refine al rfl ?_;rw[<- UZ];rfl
theorem Is(s:Signed)(g:Sig)(k:cR):NQ.Fn cx 101 [.agg (cd k),.ptr (aw s),.ptr (gK g)] (.d (.bool (qz s.set g k))) []:=by
 refine aT bo mixed Tryz.func101 ?_;conv=>whnf
 (refine⟨_,_,Ps s.set g k,?_⟩;conv=>whnf)
 exact al rfl rfl
theorem LD(s:Signed)(ah:Bs)(keys:List cR)(a d:Int)(g:Sig)(hn:keys.length<=100000):NQ.Fn cx 100 [.agg (gK g),.ptr [.str ah],.ptr [.int .i64 a],.ptr [.int .i64 d],.ptr [.slice 2 (keys.map cd)],.ptr (aw s)] (.d (.bool (zl s.set ah keys a d g))) []:=by
 refine aT bo mixed Tryz.func100 ?_;conv=>whnf
 repeat' (first|(refine aj (λh=>?_) (λh=>?_) <;> (rw[h];conv=>whnf))|fail)
 all_goals first
  |(refine al rfl ?_;show AV.d (D.bool _)=_;simp only[zl,DY, *, if_true,if_false,aY];done)
  | ((refine ⟨_, MW keys (qz s.set g) _ _ hn (fun k _ => Is s g k), rfl, ?_⟩; conv => whnf)
     refine al rfl ?_;show AV.d (D.bool _)=_;simp only[zl,DY, *, if_true,if_false,aY];done)
  |skip
theorem GM(a d:Int):NQ.Fn cx 98 [.int .i64 a,.int .i64 d] (.d (.bool (gM a d))) []:=by
 refine aT bo mixed Tryz.func98 ?_;conv=>whnf
 repeat' (first
  |(refine aj (λh=>?_) (λh=>?_) <;> (rw[h];conv=>whnf))
  |(refine al rfl ?_;show AV.d (D.bool _)=_;simp only[gM, *, if_true,if_false,aY];done)
  |fail)
theorem Rz(a d:Int):NQ.Fn cx 18 [.int .i64 a,.int .i64 d] (.d (.bool (gM a d))) []:=by
 refine aT bo mixed Tryz.func18 ?_;conv=>whnf
 repeat' (first
  |(refine aj (λh=>?_) (λh=>?_) <;> (rw[h];conv=>whnf))
  |(refine al rfl ?_;show AV.d (D.bool _)=_;simp only[gM, *, if_true,if_false,aY];done)
  |fail)
theorem Oi(s:Signed)(ah:Bs)(keys:List cR)(a d:Int)(hn:keys.length<=100000)(hs:s.sigs.length<=100000):NQ.Fn cx 52 [.agg (aw s),.str ah,.slice 2 (keys.map cd),.int .i64 a,.int .i64 d] (.d (.bool (xF s ah keys a d))) []:=by
 refine aT bo mixed Tryz.func52 ?_;conv=>whnf
 (refine⟨_,_,GM a d,?_⟩;conv=>whnf)
 unfold xF;cases gM a d with
 |false =>
  conv=>whnf
  exact al rfl rfl
 |true =>
  conv=>whnf
  (refine⟨_,PN s.sigs (zl s.set ah keys a d) _ _ _ _ _ hs (λg _=>LD s ah keys a d g hn),rfl,?_⟩;conv=>whnf)
  exact al rfl rfl
theorem FV(b:cG)(s:Signed)(at_ d:Int)(hs:s.sigs.length<=100000):NQ.Fn cx 20 [.agg (cg b),.agg (aw s),.int .i64 at_,.int .i64 d] (.d (.bool (mL b s at_ d))) []:=by
 refine eR (fun|14=>[57]|_=>[]) bo mixed Tryz.func20 ?_;conv=>whnf
 (refine⟨_,_,jI b,?_⟩;conv=>whnf)
 unfold mL;cases hb:ee b with
 |false =>
  conv=>whnf
  exact al rfl rfl
 |true =>
 conv=>whnf
 cases h6:(b.type==6)with
 |false =>
  rw[show(b.type != 6)=true by simpa using h6];conv=>whnf
  exact al rfl rfl
 |true =>
 rw[show(b.type != 6)=false by simpa using h6];conv=>whnf
 (refine⟨_,_,jI s.set,?_⟩;conv=>whnf)
 cases hv:ee s.set with
 |false =>
  conv=>whnf
  exact al rfl rfl
 |true =>
 conv=>whnf
 cases h7:(s.set.type==7)with
 |false =>
  rw[show(s.set.type != 7)=true by simpa using h7];conv=>whnf
  exact al rfl rfl
 |true =>
 rw[show(s.set.type != 7)=false by simpa using h7];conv=>whnf
 cases kr:(s.set.name==b.name)with
 |false =>
  conv=>whnf
  exact al rfl rfl
 |true =>
 conv=>whnf
 have l1:b.data.length<=8:=mw hb;have l2:s.set.data.length<=8:=mw hv
 (refine⟨_,_,we b (by omega),?_⟩;conv=>whnf)
 (refine⟨_,_,we s.set (by omega),?_⟩;conv=>whnf)
 have xf:(cK s.set).length=s.set.data.length:=by unfold cK;rw[aA]
 have xe:(cK b).length=b.data.length:=by unfold cK;rw[aA]
 refine⟨Nat,λk=>⟨[(2,.d (.int .i64 at_)),(3,.d (.int .i64 d)),(4,.ptr 4 0),(5,.ptr 5 0),(9,.d (.slice 2 ((cK b).map cd))),(10,.own 57),(45,.d (.slice 2 ((cK s.set).map cd))),(46,.d (.int .i64 (((cK s.set).map cd).length:Int))),(47,.d (.int .i64 k))],[(57,.row 31 2 ((((cK s.set).take k).filter λq=>((cK b).find? λt=>eqK t q).isSome).map cd)),(4,.box ((cg b).map .d)),(5,.box ((aw s).map .d))]⟩,λk=>k<=(cK s.set).length,λk=>(cK s.set).length-k,
  ⟨0,Nat.zero_le _,(aK.jV 10 57 2 31 2 rfl rfl (by decide)).trans (aK.keep)⟩,?_⟩
 intro k hk;conv=>whnf
 refine aj (λh1=>?_) (λh1=>?_) <;> (rw[h1];conv=>whnf)
 .have hA:k<(cK s.set).length:=by simp at h1;omega
  obtain⟨q,hq⟩:∃q,(cK s.set)[k]? =some q:=⟨_,au hA⟩
  have kC:=List.length_filter_le (λq=>((cK b).find? λt=>eqK t q).isSome) ((cK s.set).take k);rw[List.length_take]at kC;have hK:((cK s.set).take (k+1)).filter (λq=>((cK b).find? λt=>eqK t q).isSome)=((cK s.set).take k).filter (λq=>((cK b).find? λt=>eqK t q).isSome)++if ((cK b).find? λt=>eqK t q).isSome=true then[q]else[]:=by
   rw[bO hq,List.filter_append,List.filter_cons,List.filter_nil]
  refine⟨aC k,cd q,aM hq,?_⟩;conv=>whnf
  (refine⟨_,MV (cK b) (λt=>eqK t q) _ (by omega) (λt _=>Ib t q),rfl,?_⟩;conv=>whnf)
  cases hf:((cK b).find? λt=>eqK t q).isSome with
  |false =>
   rw[hf,if_neg (by decide),List.append_nil]at hK;conv=>whnf
   exact⟨k+1,hA,by(show(cK s.set).length-(k+1)<(cK s.set).length-k;omega),aK.keep ⟨ae,ae,ae,ae,ae,ae,ae,ae,⟨ax (k:=k) (by omega),rfl⟩,trivial⟩ ⟨⟨by rw[hK];rfl,rfl⟩,(by repeat' (first|exact trivial|refine⟨ae,?_⟩))⟩⟩
  |true =>
   rw[hf,if_pos rfl]at hK;have kn:(((cK s.set).take (k+1)).filter (λq=>((cK b).find? λt=>eqK t q).isSome)).map cd=(((cK s.set).take k).filter (λq=>((cK b).find? λt=>eqK t q).isSome)).map cd++[cd q]:=by rw[hK,List.map_append];rfl
   conv=>whnf
   refine⟨by simp;omega,by simp;omega,?_⟩;conv=>whnf
   exact⟨k+1,hA,by(show(cK s.set).length-(k+1)<(cK s.set).length-k;omega),aK.keep ⟨ae,ae,ae,ae,ae,ae,ae,ae,⟨ax (k:=k) (by omega),rfl⟩,trivial⟩ ⟨⟨by rw[kn];rfl,rfl⟩,(by repeat' (first|exact trivial|refine⟨ae,?_⟩))⟩⟩
 .obtain rfl:k=(cK s.set).length:=by simp at h1;omega
  rw[List.take_length];have kC:=List.length_filter_le (λq=>((cK b).find? λt=>eqK t q).isSome) (cK s.set)
  (refine⟨_,_,Oi s b.name (qk b s.set) at_ d (by unfold qk;omega) hs,?_⟩;conv=>whnf)
  exact al rfl rfl
end Go.Proofs.YtodofogcincleaaGreatDoor
