/-
  Merged texts.
-/
import Derived.Test.YtodofogcincleaaGreatDoorMQbs
import Derived.Test.YtodofogcincleaaGreatDoorMGk
set_option linter.all false
set_option maxHeartbeats 2000000
set_option maxRecDepth 100000
namespace Go.Proofs.YtodofogcincleaaGreatDoor
open NQ Go.RowKit
def gP(c:Int):List D:=[.int .u8 c]
def dm(n:Int):List D:=[.int .i64 n]
def TV(x c:Int):Int:=IntKind.u64.wrap (Pm .u64 x (IntKind.u64.wrap c)*1099511628211)
def lN:Int->List Int->Int
 |x,[]=>x
 |x,c::t=>lN (TV x c) t
def eL(n:Int):List Int:=(List.range 8).map λi=>IntKind.u8.wrap ((IntKind.u64.wrap n).fdiv (2 ^ (56-8*i)))
def pQ:Int->List Int->Int
 |x,[]=>x
 |x,n::t=>pQ (lN x (eL n)) t
def sK(s:Bs):List Int:=s.map λc=>(c.toNat:Int)
theorem Dl(s:Bs):eD s=(sK s).map gP:=by simp[eD,sK,gP,Function.comp_def]
def Rs(set:List Int)(ah:Bs)(n m since aO:Int):Int :=
 pQ (lN (lN (lN 14695981039346656037 set) [IntKind.u8.wrap (ah.length:Int)]) (sK ah)) [n,m,since,aO]
def sw(n m:Int):List D:=[.int .i64 n,.int .i64 m]
theorem xf(x:Int)(l:List Int)(hl:l.length<=100000000):FnB cx 162 [.int .u64 x] [.slice 1 (l.map gP)] (.tuple []) [.int .u64 (lN x l)]:=by
 refine KH (λ_=>[]) bp mixed Tryz.func162 ?_;conv=>whnf
 refine⟨Nat×Int,λy=>⟨[(0,.ptr 100000 0),(6,.d (.slice 1 (l.map gP))),(7,.d (.int .i64 ((l.map gP).length:Int))),(8,.d (.int .i64 y.1))],[(100000,.box [.d (.int .u64 y.2)])]⟩,
  λy=>y.1<=l.length/\lN y.2 (l.drop y.1)=lN x l,λy=>l.length-y.1,⟨(0,x),⟨by omega,rfl⟩,aK.keep ⟨ae,ae,ae,ae,trivial⟩ ⟨ae,trivial⟩⟩,?_⟩
 rintro⟨k,d⟩ ⟨hk,hc⟩;simp only at hk hc;conv=>whnf
 refine ak (λh1=>?_) (λh1=>?_) <;> (rw[h1];conv=>whnf)
 .have hA:k<l.length:=by simp at h1;omega
  obtain⟨c,ky⟩:∃c,l[k]? =some c:=⟨_,au hA⟩
  rw[drop_cons ky,lN]at hc;refine⟨aD k,gP c,aN ky,?_⟩;conv=>whnf
  refine⟨(k+1,TV d c),⟨hA,hc⟩,by(show l.length-(k+1)<l.length-k;omega),aK.keep ⟨ae,ae,ae,⟨ax (by omega),rfl⟩,trivial⟩ ⟨ae,trivial⟩⟩
 .obtain rfl:k=l.length:=by simp at h1;omega
  rw[List.drop_length,lN]at hc;refine⟨[],_,_,rfl,rfl,rfl,?_⟩;rw[<- hc];rfl
noncomputable def gX (l:List (Nat×Nat)) (f:Nat):Nat:=match find l f with|some n=>n|none=>cx.chg f
noncomputable def cxG:Cx:={cx with chg:=gX [(162,3),(161,9)],bld:=[19,31]}
theorem tyG:bD cxG:=bp
theorem NO:cxG.P.follows .mixedOrders=true:=mixed
def pv0:Int->Value:=λ_=>undef
theorem Rr(x:Int)(l:List Int)(hl:l.length<=100000):FnP cxG pv0 161 [.d (.slice 1 (l.map dm)),.ptr 100011 0] [(100011,.box [.d (.int .u64 x)])] (some (.tuple [],[(100011,.box [.d (.int .u64 (pQ x l))])])):=by
 refine bt [] (fun|9=>[33333,5]|_=>[]) tyG NO Tryz.func161 ?_;conv=>whnf
 refine⟨Nat×Int,λy=>⟨[(1,.ptr 100011 0),(7,.d (.slice 1 (l.map dm))),(8,.d (.int .i64 ((l.map dm).length:Int))),(9,.d (.int .i64 y.1))],[(100011,.box [.d (.int .u64 y.2)])]⟩,
  λy=>y.1<=l.length/\pQ y.2 (l.drop y.1)=pQ x l,λy=>l.length-y.1,⟨(0,x),⟨by omega,rfl⟩,(aq.keep ⟨ae,ae,ae,ae,trivial⟩ ⟨ae,trivial⟩)⟩,?_⟩
 rintro⟨k,d⟩ ⟨hk,hc⟩;simp only at hk hc;conv=>whnf
 refine ak (λh1=>?_) (λh1=>?_) <;> (rw[h1];conv=>whnf)
 .have hA:k<l.length:=by simp at h1;omega
  obtain⟨n,kE⟩:∃n,l[k]? =some n:=⟨_,au hA⟩
  rw[drop_cons kE,pQ]at hc;refine⟨aD k,dm n,aN kE,?_⟩;conv=>whnf
  refine⟨Nat,λi=>⟨[(1,.ptr 100011 0),(4,.d (.int .i64 n)),(5,.ptr 5 0),(7,.d (.slice 1 (l.map dm))),(8,.d (.int .i64 ((l.map dm).length:Int))),(9,.d (.int .i64 k)),(13,.d (.int .i64 i))],[(100011,.box [.d (.int .u64 d)]),(5,.box (((eL n).take i++List.replicate (8-i) 0).map λc=> .d (.int .u8 c)))]⟩,
   λi=>i<=8,λi=>8-i,⟨0,by omega,(aq.keep ⟨ae,ae,ae,ae,ae,ae,ae,trivial⟩ ⟨ae,ae,trivial⟩)⟩,?_⟩
  intro i hi;rcases i with _|_|_|_|_|_|_|_|_|i
  case succ.succ.succ.succ.succ.succ.succ.succ.succ=>omega
  all_goals conv=>whnf
  all_goals try (refine⟨by decide,by decide,?_⟩;conv=>whnf)
  .exact⟨1,by decide,by decide,aq.keep ⟨ae,ae,ae,ae,ae,ae,ae,trivial⟩ ⟨ae,⟨by kernel_rfl,rfl⟩,trivial⟩⟩
  .exact⟨2,by decide,by decide,aq.keep ⟨ae,ae,ae,ae,ae,ae,ae,trivial⟩ ⟨ae,⟨by kernel_rfl,rfl⟩,trivial⟩⟩
  .exact⟨3,by decide,by decide,aq.keep ⟨ae,ae,ae,ae,ae,ae,ae,trivial⟩ ⟨ae,⟨by kernel_rfl,rfl⟩,trivial⟩⟩
  .exact⟨4,by decide,by decide,aq.keep ⟨ae,ae,ae,ae,ae,ae,ae,trivial⟩ ⟨ae,⟨by kernel_rfl,rfl⟩,trivial⟩⟩
  .exact⟨5,by decide,by decide,aq.keep ⟨ae,ae,ae,ae,ae,ae,ae,trivial⟩ ⟨ae,⟨by kernel_rfl,rfl⟩,trivial⟩⟩
  .exact⟨6,by decide,by decide,aq.keep ⟨ae,ae,ae,ae,ae,ae,ae,trivial⟩ ⟨ae,⟨by kernel_rfl,rfl⟩,trivial⟩⟩
  .exact⟨7,by decide,by decide,aq.keep ⟨ae,ae,ae,ae,ae,ae,ae,trivial⟩ ⟨ae,⟨by kernel_rfl,rfl⟩,trivial⟩⟩
  .exact⟨8,by decide,by decide,aq.keep ⟨ae,ae,ae,ae,ae,ae,ae,trivial⟩ ⟨ae,⟨by kernel_rfl,rfl⟩,trivial⟩⟩
  .refine⟨_,_,xf d (eL n) (by simp[eL]),?_⟩;conv=>whnf
   exact⟨(k+1,lN d (eL n)),⟨hA,hc⟩,by(show l.length-(k+1)<l.length-k;omega),aq.keep ⟨ae,ae,ae,⟨ax (by omega),rfl⟩,trivial⟩ ⟨ae,trivial⟩⟩
 .obtain rfl:k=l.length:=by simp at h1;omega
  rw[List.drop_length,pQ]at hc;exact .inl ⟨[],(aq.keep trivial ⟨⟨by rw[<- hc];rfl,rfl⟩,trivial⟩),rfl⟩
theorem UF(set:List Int)(ah:Bs)(n m since aO:Int)(h1:set.length<=10000000)(h2:ah.length<=1000000):NQ.Fn cxG 97 [.slice 1 (set.map gP),.str ah,.agg (sw n m),.int .i64 since,.int .i64 aO] (.d (.int .u64 (Rs set ah n m since aO))) []:=by
 refine jn (pv:=pv0) ?_;refine bt [100011] (fun|3=>[55555]|5=>[33333]|6=>[33333,55555]|_=>[]) tyG NO Tryz.func97 ?_;have key:∀x1 x2 x3 x4:Int,x1=lN 14695981039346656037 set->x2=lN x1 [IntKind.u8.wrap (ah.length:Int)]->x3=lN x2 (sK ah)->x4=pQ x3 [n,m,since,aO]->Rs set ah n m since aO=x4:=by
  rintro _ _ _ _ rfl rfl rfl rfl;rfl
 obtain⟨x1,e1⟩:∃x,x=lN 14695981039346656037 set:=⟨_,rfl⟩
 obtain⟨x2,e2⟩:∃x,x=lN x1 [IntKind.u8.wrap (ah.length:Int)]:=⟨_,rfl⟩
 obtain⟨x3,e3⟩:∃x,x=lN x2 (sK ah):=⟨_,rfl⟩
 obtain⟨x4,e4⟩:∃x,x=pQ x3 [n,m,since,aO]:=⟨_,rfl⟩
 rw[key x1 x2 x3 x4 e1 e2 e3 e4];have f1:=xf 14695981039346656037 set (by omega);rw[<- e1]at f1;have f2:=xf x1 [IntKind.u8.wrap (ah.length:Int)] (by simp);rw[<- e2]at f2;have f3:=xf x2 (sK ah) (by rw[sK,aA];omega);rw[<- e3, <- Dl]at f3;have f4:=Rr x3 [n,m,since,aO] (by simp);rw[<- e4]at f4;clear key e1 e2 e3 e4;conv=>whnf
 refine⟨_,aq.name 11 100011 rfl rfl,?_⟩;conv=>whnf
 refine⟨_,_,f1,?_⟩;conv=>whnf
 refine⟨_,_,f2,?_⟩;conv=>whnf
 refine⟨_,_,f3,?_⟩;conv=>whnf
 refine⟨_,aq.keep (sl:=[(3,.d (.int .i64 since)),(4,.d (.int .i64 aO)),(7,.ptr 7 0),(11,.ptr 100011 0),(12,.fn 161 [] [.ptr 100011 0])]) (h:=[(7,.box [.d (.int .i64 n),.d (.int .i64 m)]),(100011,.box [.d (.int .u64 x3)])]) ⟨⟨rfl,rfl⟩,⟨rfl,rfl⟩,⟨rfl,rfl⟩,⟨rfl,rfl⟩,⟨rfl,rfl⟩,trivial⟩ ⟨⟨rfl,rfl⟩,⟨rfl,rfl⟩,trivial⟩,?_⟩;conv=>whnf
 refine⟨[7],_,f4,⟨rfl,rfl,rfl⟩,?_⟩;conv=>whnf
 refine aM ?_;conv=>whnf
 exact .inl ⟨[(10,.d (.int .u64 x4))],aq.keep ⟨ae,trivial⟩ trivial,rfl⟩
def gF(t:Bs):List Int:=IntKind.u8.wrap (t.length:Int)::sK t
def Kw(d:Datum):List Int:=gF d.text++eL d.n++eL d.m
def gC:List Datum->List Int
 |[]=>[]
 |d::t=>Kw d++gC t
def setBytes(s:cG):List Int:=gF s.name++eL s.type++eL s.aP++[IntKind.u8.wrap (s.data.length:Int)]++gC s.data
theorem uR(s:Bs):(sK s).length=s.length:=by simp[sK]
theorem qO(n:Int):(eL n).length=8:=by simp[eL]
theorem Fc(d:Datum):(Kw d).length=d.text.length+17:=by simp[Kw,gF,uR,qO]
theorem CG:∀a b:List Datum,gC (a++b)=gC a++gC b
 |[],b=>rfl
 |d::t,b=>by simp[gC,CG t b]
theorem vG:∀(l:List Datum) (_:∀d∈l,d.text.length<=100000),(gC l).length<=l.length*100017
 |[],_=>by simp[gC]
 |d::t,h=>by
  have h1:=vG t λd hd=>h d (bC _ hd)
  have h2:=h d (List.mem_cons_self ..);simp only[gC,List.length_append,Fc,List.length_cons];omega
noncomputable def cxY:Cx:={cx with chg:=gX [(159,9),(160,9)],bld:=[9,16,27]}
theorem tyY:bD cxY:=bp
theorem Az:cxY.P.follows .mixedOrders=true:=mixed
abbrev mX(l:List Int):Blk:= .row 5 1 (l.map gP)
theorem xT(l:List Int)(t:Bs)(hl:l.length<=10000000000000)(ht:t.length<=1000000000):FnP cxY pv0 159 [.own 90050,.d (.str t)] [(90050,mX l)] (some (.own 90050,[(90050,mX (l++gF t))])):=by
 refine bt [] (fun|2=>[33333]|_=>[]) tyY Az Tryz.func159 ?_;conv=>whnf
 refine⟨by(show(l.map gP).length+1<=_;rw[aA];omega),by(show((l.map gP).length+1)*1<=_;rw[aA];omega),?_⟩;conv=>whnf
 refine⟨by(show(l.map gP++_).length+t.length<=_;rw[List.length_append,aA];show l.length+1+t.length<=_;omega),?_⟩;conv=>whnf
 refine .inl ⟨[(4,.own 90050)],aq.keep ⟨ae,trivial⟩ ⟨⟨?_,rfl⟩,trivial⟩,rfl⟩;show some (Blk.row _ _ (l.map gP++[[_]]++eD t))=some (Blk.row _ _ _)
 rw[Dl,gF,List.map_append,List.append_assoc];rfl
theorem pN(l:List Int)(n:Int)(hl:l.length<=10000000000000):FnP cxY pv0 160 [.own 90050,.d (.int .i64 n)] [(90050,mX l)] (some (.own 90050,[(90050,mX (l++eL n))])):=by
 refine bt [] (fun|_=>[]) tyY Az Tryz.func160 ?_;conv=>whnf
 refine⟨Nat,λi=>⟨[(0,.own 90050),(1,.d (.int .i64 n)),(5,.d (.int .i64 (56-8*(i:Int))))],[(90050,mX (l++(eL n).take i))]⟩,λi=>i<=8,λi=>8-i,⟨0,by omega,aq.keep ⟨ae,ae,ae,trivial⟩ ⟨⟨by(show some (Blk.row _ _ _)=some (Blk.row _ _ _);rw[List.take_zero,List.append_nil]),rfl⟩,trivial⟩⟩,?_⟩;intro i hi;have step:∀i,i<8->(l++(eL n).take i).map gP++[[D.int .u8 (IntKind.u8.wrap ((IntKind.u64.wrap n).fdiv (2 ^ (56-8*i))))]]=(l++(eL n).take (i+1)).map gP:=λi hi=>by
  have h:(eL n)[i]? =some (IntKind.u8.wrap ((IntKind.u64.wrap n).fdiv (2 ^ (56-8*i)))):=by simp[eL,hi]
  rw[List.take_add_one,h];simp[gP]
 have hlen:∀i,i<8->((l++(eL n).take i).map gP).length+1<=10000000000100:=λi hi=>by
  rw[aA,List.length_append,List.length_take];omega
 have h8:(eL n).take 8=eL n:=List.take_of_length_le (by simp[eL]);rcases i with _|_|_|_|_|_|_|_|_|i
 case succ.succ.succ.succ.succ.succ.succ.succ.succ=>omega
 all_goals conv=>whnf
 .refine⟨Nat.le_trans (hlen 0 (by omega)) (by decide),(Nat.mul_one _).symm ▸ Nat.le_trans (hlen 0 (by omega)) (by decide),?_⟩;conv=>whnf
  exact⟨1,by decide,by decide,aq.keep ⟨ae,ae,ae,trivial⟩ ⟨⟨congrArg (λr=>some (Blk.row 5 1 r)) (step 0 (by omega)),rfl⟩,trivial⟩⟩
 .refine⟨Nat.le_trans (hlen 1 (by omega)) (by decide),(Nat.mul_one _).symm ▸ Nat.le_trans (hlen 1 (by omega)) (by decide),?_⟩;conv=>whnf
  exact⟨2,by decide,by decide,aq.keep ⟨ae,ae,ae,trivial⟩ ⟨⟨congrArg (λr=>some (Blk.row 5 1 r)) (step 1 (by omega)),rfl⟩,trivial⟩⟩
 .refine⟨Nat.le_trans (hlen 2 (by omega)) (by decide),(Nat.mul_one _).symm ▸ Nat.le_trans (hlen 2 (by omega)) (by decide),?_⟩;conv=>whnf
  exact⟨3,by decide,by decide,aq.keep ⟨ae,ae,ae,trivial⟩ ⟨⟨congrArg (λr=>some (Blk.row 5 1 r)) (step 2 (by omega)),rfl⟩,trivial⟩⟩
 .refine⟨Nat.le_trans (hlen 3 (by omega)) (by decide),(Nat.mul_one _).symm ▸ Nat.le_trans (hlen 3 (by omega)) (by decide),?_⟩;conv=>whnf
  exact⟨4,by decide,by decide,aq.keep ⟨ae,ae,ae,trivial⟩ ⟨⟨congrArg (λr=>some (Blk.row 5 1 r)) (step 3 (by omega)),rfl⟩,trivial⟩⟩
 .refine⟨Nat.le_trans (hlen 4 (by omega)) (by decide),(Nat.mul_one _).symm ▸ Nat.le_trans (hlen 4 (by omega)) (by decide),?_⟩;conv=>whnf
  exact⟨5,by decide,by decide,aq.keep ⟨ae,ae,ae,trivial⟩ ⟨⟨congrArg (λr=>some (Blk.row 5 1 r)) (step 4 (by omega)),rfl⟩,trivial⟩⟩
 .refine⟨Nat.le_trans (hlen 5 (by omega)) (by decide),(Nat.mul_one _).symm ▸ Nat.le_trans (hlen 5 (by omega)) (by decide),?_⟩;conv=>whnf
  exact⟨6,by decide,by decide,aq.keep ⟨ae,ae,ae,trivial⟩ ⟨⟨congrArg (λr=>some (Blk.row 5 1 r)) (step 5 (by omega)),rfl⟩,trivial⟩⟩
 .refine⟨Nat.le_trans (hlen 6 (by omega)) (by decide),(Nat.mul_one _).symm ▸ Nat.le_trans (hlen 6 (by omega)) (by decide),?_⟩;conv=>whnf
  exact⟨7,by decide,by decide,aq.keep ⟨ae,ae,ae,trivial⟩ ⟨⟨congrArg (λr=>some (Blk.row 5 1 r)) (step 6 (by omega)),rfl⟩,trivial⟩⟩
 .refine⟨Nat.le_trans (hlen 7 (by omega)) (by decide),(Nat.mul_one _).symm ▸ Nat.le_trans (hlen 7 (by omega)) (by decide),?_⟩;conv=>whnf
  exact⟨8,by decide,by decide,aq.keep ⟨ae,ae,ae,trivial⟩ ⟨⟨congrArg (λr=>some (Blk.row 5 1 r)) (step 7 (by omega)),rfl⟩,trivial⟩⟩
 .refine .inl ⟨[(4,.own 90050)],aq.keep ⟨ae,trivial⟩ ⟨⟨?_,rfl⟩,trivial⟩,rfl⟩;show some (Blk.row _ _ ((l++(eL n).take 8).map gP))=some (Blk.row _ _ _)
  rw[h8]
theorem MK(s:cG)(hv:dX s=true)(h1:s.name.length<=100000)(h2:∀d∈s.data,d.text.length<=100000)(h3:s.data.length<=10000) :
 FnP cxY pv0 96 [.agg ((cg s).map .d)] [] (some (.tuple [.own 90050,.d (.int .i64 0)],[(90050,mX (setBytes s))])):=by
 refine bt [] (fun|4=>[33333,55555]|5=>[33333,55555]|6=>[33333,55555]|7=>[55555]|11=>[33333]|12=>[33333,55555]|13=>[33333,55555]|_=>[]) tyY Az Tryz.func96 ?_;conv=>whnf
 (refine⟨_,_,jI s,?_⟩;conv=>whnf)
 rw[hv];conv=>whnf
 have hb:=vG s.data h2;have l1:(gF s.name).length<=100001:=by rw[gF,List.length_cons,uR];omega
 have l2:(gF s.name++eL s.type).length<=100010:=by rw[List.length_append,qO];omega
 have l3:(gF s.name++eL s.type++eL s.aP).length<=100020:=by rw[List.length_append,qO];omega
 have lk:∀k,(gF s.name++eL s.type++eL s.aP++[IntKind.u8.wrap (s.data.length:Int)]++gC (s.data.take k)).length<=2000000000:=λk=>by
  have h4:=vG (s.data.take k) λd hd=>h2 d (List.mem_of_mem_take hd)
  have h5:(s.data.take k).length<=s.data.length:=by rw[List.length_take];omega
  have h6:(s.data.take k).length*100017<=s.data.length*100017:=Nat.mul_le_mul_right _ h5;simp only[List.length_append,List.length_singleton]at l3 ⊢;omega
 refine⟨_,(aq.jV 4 90050 1 5 1 rfl rfl (by decide)).trans (aq.keep (sl:=[(1,.ptr 1 0),(4,.own 90050)]) (h:=[(1,.box ((cg s).map .d)),(90050,mX [])]) ⟨⟨rfl,rfl⟩,⟨rfl,rfl⟩,trivial⟩ ⟨⟨rfl,rfl⟩,⟨rfl,rfl⟩,trivial⟩),?_⟩;conv=>whnf
 refine⟨[1],_,xT [] s.name (by simp) (by omega),⟨rfl,rfl,rfl⟩,?_⟩;conv=>whnf
 refine aM ?_;conv=>whnf
 refine⟨_,aq.keep (sl:=[(1,.ptr 1 0),(4,.own 90050)]) (h:=[(1,.box ((cg s).map .d)),(90050,mX _)]) ⟨⟨rfl,rfl⟩,⟨rfl,rfl⟩,trivial⟩ ⟨⟨rfl,rfl⟩,⟨rfl,rfl⟩,trivial⟩,?_⟩;conv=>whnf
 refine⟨[1],_,pN (gF s.name) s.type (by omega),⟨rfl,rfl,rfl⟩,?_⟩;conv=>whnf
 refine aM ?_;conv=>whnf
 refine⟨_,aq.keep (sl:=[(1,.ptr 1 0),(4,.own 90050)]) (h:=[(1,.box ((cg s).map .d)),(90050,mX _)]) ⟨⟨rfl,rfl⟩,⟨rfl,rfl⟩,trivial⟩ ⟨⟨rfl,rfl⟩,⟨rfl,rfl⟩,trivial⟩,?_⟩;conv=>whnf
 refine⟨[1],_,pN (gF s.name++eL s.type) s.aP (by omega),⟨rfl,rfl,rfl⟩,?_⟩;conv=>whnf
 refine aM ?_;conv=>whnf
 refine⟨_,aq.keep (sl:=[(1,.ptr 1 0),(4,.own 90050)]) (h:=[(1,.box ((cg s).map .d)),(90050,mX (gF s.name++eL s.type++eL s.aP))]) ⟨⟨rfl,rfl⟩,⟨rfl,rfl⟩,trivial⟩ ⟨⟨rfl,rfl⟩,⟨rfl,rfl⟩,trivial⟩,?_⟩;conv=>whnf
 refine⟨by(show(List.map gP _).length+1<=_;rw[aA];omega),by(show((List.map gP _).length+1)*1<=_;rw[aA];omega),?_⟩;conv=>whnf
 obtain⟨B,hB⟩:∃B,B=gF s.name++eL s.type++eL s.aP++[IntKind.u8.wrap (s.data.length:Int)]:=⟨_,rfl⟩
 rw[<- hB]at lk;refine⟨Nat,λk=>⟨[(1,.ptr 1 0),(4,.own 90050),(30,.d (.slice 3 (s.data.map aQ))),(31,.d (.int .i64 (s.data.map aQ).length)),(32,.d (.int .i64 k))],[(1,.box ((cg s).map .d)),(90050,mX (B++gC (s.data.take k)))]⟩,
  λk=>k<=s.data.length,λk=>s.data.length-k,⟨0,by omega,aq.keep ⟨ae,ae,ae,ae,ae,trivial⟩ ⟨ae,⟨?_,rfl⟩,trivial⟩⟩,?_⟩
 .show some (Blk.row _ _ (List.map gP _++[[_]]))=some (Blk.row _ _ _)
  rw[hB,List.take_zero,gC,List.append_nil,aA,List.map_append (l₂:=[_])];rfl
 intro k hk;conv=>whnf
 refine ak (λh1=>?_) (λh1=>?_) <;> (rw[h1];conv=>whnf)
 .have hA:k<s.data.length:=by simp at h1;omega
  obtain⟨d,hV⟩:∃d,s.data[k]? =some d:=⟨_,au hA⟩
  have xi:=h2 d (aC hV);have xj:=lk k;refine⟨aD k,aQ d,aN hV,?_⟩;conv=>whnf
  have tl:(gF d.text).length<=100001:=by rw[gF,List.length_cons,uR];omega
  have e1:(B++gC (s.data.take k)++gF d.text).length<=3000000000:=by rw[List.length_append];omega
  have e2:(B++gC (s.data.take k)++gF d.text++eL d.n).length<=3000000010:=by rw[List.length_append,qO];omega
  refine⟨[1,6],_,xT (B++gC (s.data.take k)) d.text (by omega) (by omega),⟨rfl,rfl,rfl⟩,?_⟩;conv=>whnf
  refine aM ?_;conv=>whnf
  refine⟨_,aq.keep (sl:=[(1,.ptr 1 0),(4,.own 90050),(6,.ptr 6 0),(30,.d (.slice 3 (s.data.map aQ))),(31,.d (.int .i64 (s.data.map aQ).length)),(32,.d (.int .i64 k))]) (h:=[(1,.box ((cg s).map .d)),(6,.box ((aQ d).map .d)),(90050,mX _)]) ⟨⟨rfl,rfl⟩,⟨rfl,rfl⟩,⟨rfl,rfl⟩,⟨rfl,rfl⟩,⟨rfl,rfl⟩,⟨rfl,rfl⟩,trivial⟩ ⟨⟨rfl,rfl⟩,⟨rfl,rfl⟩,⟨rfl,rfl⟩,trivial⟩,?_⟩;conv=>whnf
  refine⟨[1,6],_,pN (B++gC (s.data.take k)++gF d.text) d.n (by omega),⟨rfl,rfl,rfl⟩,?_⟩;conv=>whnf
  refine aM ?_;conv=>whnf
  refine⟨_,aq.keep (sl:=[(1,.ptr 1 0),(4,.own 90050),(6,.ptr 6 0),(30,.d (.slice 3 (s.data.map aQ))),(31,.d (.int .i64 (s.data.map aQ).length)),(32,.d (.int .i64 k))]) (h:=[(1,.box ((cg s).map .d)),(6,.box ((aQ d).map .d)),(90050,mX _)]) ⟨⟨rfl,rfl⟩,⟨rfl,rfl⟩,⟨rfl,rfl⟩,⟨rfl,rfl⟩,⟨rfl,rfl⟩,⟨rfl,rfl⟩,trivial⟩ ⟨⟨rfl,rfl⟩,⟨rfl,rfl⟩,⟨rfl,rfl⟩,trivial⟩,?_⟩;conv=>whnf
  refine⟨[1,6],_,pN (B++gC (s.data.take k)++gF d.text++eL d.n) d.m (by omega),⟨rfl,rfl,rfl⟩,?_⟩;conv=>whnf
  refine aM ?_;conv=>whnf
  refine⟨k+1,hA,by(show s.data.length-(k+1)<s.data.length-k;omega),aq.keep ⟨ae,ae,ae,ae,⟨ax (by omega),rfl⟩,trivial⟩ ⟨ae,⟨congrArg (λr=>some (mX r)) ?_,rfl⟩,trivial⟩⟩;rw[bP hV,CG];simp[gC,Kw]
 .obtain rfl:k=s.data.length:=by simp at h1;omega
  refine .inl ⟨[(2,.own 90050),(3,.d (.int .i64 0))],aq.keep ⟨ae,ae,trivial⟩ ⟨⟨congrArg (λr=>some (mX r)) ?_,rfl⟩,trivial⟩,rfl⟩;rw[List.take_length,hB];rfl
theorem MJ(s:cG)(hv:dX s=false):FnP cxY pv0 96 [.agg ((cg s).map .d)] [] (some (.tuple [.nil 1,.d (.int .i64 1)],[])):=by
 refine bt [] (fun|_=>[]) tyY Az Tryz.func96 ?_;conv=>whnf
 (refine⟨_,_,jI s,?_⟩;conv=>whnf)
 rw[hv];conv=>whnf
 exact iQ rfl rfl rfl
structure cR where
 n:Int
 alg:Int
 deriving DecidableEq
def cd(k:cR):List D:=[.int .i64 k.n,.int .i64 k.alg]
def nO(k:cR):Bool:=decide (k.n>=1)&&(decide (k.n<=1000000)&&(decide (k.alg>=1)&&decide (k.alg<=3)))
def qj(a b:Int):Bool:=decide (a>=0)&&(decide (a<=b)&&decide (b<=20000000))
def xF(a:Int):Bool:=decide (a>=0)&&decide (a<65536)
def pJ(a:Int):Int×Int:=if xF a=true then((a+1).tmod 65536,0)else(0,1)
def cK(s:cG):List cR:=s.data.map λd=>⟨d.n,d.m⟩
def dw(s:cG):List cR×Int:=if dX s=true then(if s.type=7 then(cK s,0)else([],12))else([],1)
def xO:Sig:=⟨[],0,0,0,0,0⟩
def wJ(s:cG)(ah:Bs)(k:cR)(a b:Int):Bool:=(nO k&&(qj a b&&(bk ah&& !kQ ah)))&&(dX s&&(bJ s.name ah).1)
def lz(s:cG)(ah:Bs)(k:cR)(a b:Int):Sig:=⟨ah,k.n,k.alg,a,b,Rs (setBytes s) ah k.n k.alg a b⟩
def lF(s:cG)(ah:Bs)(k:cR)(a b:Int):Sig×Int:=if wJ s ah k a b=true then(lz s ah k a b,0)else(xO,1)
theorem Ba{s:cG}(h:dX s=true):s.name.length<=60/\(∀d∈s.data,d.text.length<=60)/\s.data.length<=8:=by
 refine⟨fo (my h),λd hd=>?_,mw h⟩;unfold dX at h;simp only[aT,aH]at h;obtain⟨i,hi,rfl⟩:=List.getElem_of_mem hd;have:=h.2 i (List.mem_range.2 hi);have h1:s.data[i-1]? =some s.data[i-1]:=au (by omega);rw[Fb (au hi) h1]at this;have hv:nZ (tD s.type) s.data[i]=true:=by
  unfold vE at this;simp only[Bool.not_eq_true',Bool.or_eq_false_iff,Bool.not_eq_false']at this;exact this.1
 unfold nZ at hv;simp only[aT]at hv;have ht:=hv.2;unfold wR at ht;split at ht
 .simp only[aT]at ht;exact fo ht.1
 .split at ht
  .exact fo ht
  .split at ht
   .unfold cU at ht;simp only[aT,decide_eq_true_eq]at ht;have:=ht.1.1.1.2;omega
   .have:=eq_of_beq ht;rw[this];simp
theorem LQ(s:cG)(h:dX s=true):(setBytes s).length<=10000:=by
 obtain⟨h1,h2,h3⟩:=Ba h;have:∀(l:List Datum) (_:∀d∈l,d.text.length<=60),(gC l).length<=l.length*77:=by
  intro l;induction l with
  |nil=>intro _;simp[gC]
  |cons d t ih =>
   intro h;have h1:=ih λd hd=>h d (bC _ hd)
   have h2:=h d (List.mem_cons_self ..);simp only[gC,List.length_append,Fc,List.length_cons];omega
 have h4:=this s.data h2;simp only[setBytes,List.length_append,gF,List.length_cons,uR,qO,List.length_nil];omega
theorem yA(k:cR):NQ.Fn cx 41 [.agg (cd k)] (.d (.bool (nO k))) []:=by
 refine aU bp mixed Tryz.func41 ?_;conv=>whnf
 repeat' (first
  |(refine ak (λh=>?_) (λh=>?_) <;> (rw[h];conv=>whnf))
  |(refine al rfl ?_;show AV.d (D.bool _)=_;simp only[nO, *, if_true,if_false,aY];done)
  |fail)
theorem yB(a b:Int):NQ.Fn cx 39 [.int .i64 a,.int .i64 b] (.d (.bool (qj a b))) []:=by
 refine aU bp mixed Tryz.func39 ?_;conv=>whnf
 repeat' (first
  |(refine ak (λh=>?_) (λh=>?_) <;> (rw[h];conv=>whnf))
  |(refine al rfl ?_;show AV.d (D.bool _)=_;simp only[qj, *, if_true,if_false,aY];done)
  |fail)
theorem Ct(a:Int):NQ.Fn cx 225 [.int .i64 a] (.d (.bool (xF a))) []:=by
 refine aU bp mixed Tryz.func225 ?_;conv=>whnf
 repeat' (first
  |(refine ak (λh=>?_) (λh=>?_) <;> (rw[h];conv=>whnf))
  |(refine al rfl ?_;show AV.d (D.bool _)=_;simp only[xF, *, if_true,if_false,aY];done)
  |fail)
theorem Er(a:Int):NQ.Fn cx 186 [.int .i64 a] (.tuple [.d (.int .i64 (pJ a).1),.d (.int .i64 (pJ a).2)]) []:=by
 refine aU bp mixed Tryz.func186 ?_;conv=>whnf
 (refine⟨_,_,Ct a,?_⟩;conv=>whnf)
 cases h:xF a with
 |false =>
  conv=>whnf
  refine al rfl ?_;rw[pJ,if_neg (by rw[h];simp)];rfl
 |true =>
  conv=>whnf
  refine al rfl ?_;rw[pJ,if_pos h];have:IntKind.i64.wrap (a+1)=a+1:=wrap_i64 (by simp[xF]at h;omega) (by simp[xF]at h;omega);rw[this];rfl
theorem wh(s:cG)(hl:s.data.length<=100000):NQ.Fn cx 38 [.agg (cg s)] (.d (.slice 2 ((cK s).map cd))) []:=by
 refine aU bp mixed Tryz.func38 ?_;conv=>whnf
 refine⟨by omega,.inl rfl,by omega,by(simp only[aA];omega),by(simp only[aA];omega),?_⟩;conv=>whnf
 refine ⟨Nat, fun k => ⟨[(1, .ptr 1 0), (3, .own 9), (11, .d (.slice 3 (s.data.map aQ))), (12, .d (.int .i64 ((s.data.map aQ).length : Int))), (13, .d (.int .i64 k))],
     [(1,.box ((cg s).map .d)),(9,.row 31 2 (((cK s).take k++List.replicate (s.data.length-k) (⟨0,0⟩:cR)).map cd) true)]⟩,
  λk=>k<=s.data.length,λk=>s.data.length-k,⟨0,by omega,aK.keep ⟨ae,ae,ae,ae,ae,trivial⟩ ⟨ae,⟨by(show some (Blk.row _ _ (List.replicate ((s.data.map aQ).length:Int).toNat _) true)=some (Blk.row _ _ _ true);simp[cd];done),rfl⟩,trivial⟩⟩,λk hk=>?_⟩
 conv=>whnf
 refine ak (λh1=>?_) (λh1=>?_) <;> (rw[h1];conv=>whnf)
 .have hA:k<s.data.length:=by simp at h1;omega
  obtain⟨d,hV⟩:∃d,s.data[k]? =some d:=⟨_,au hA⟩
  refine⟨aD k,aQ d,aN hV,?_⟩;conv=>whnf
  have kR:(cK s)[k]? =some ⟨d.n,d.m⟩:=by rw[cK,bc,hV];rfl
  refine⟨aD k,by(simp[cK];omega),?_⟩;conv=>whnf
  have kd:(((cK s).take k++List.replicate (s.data.length-k) (⟨0,0⟩:cR)).map cd)[k]? =some (cd ⟨0,0⟩):=by
   rw[bc,cL (by simp[cK];omega),List.getElem?_replicate,if_pos (by simp[cK];omega)];rfl
  refine⟨_,kd,?_⟩;conv=>whnf
  refine⟨k+1,hA,by(show s.data.length-(k+1)<s.data.length-k;omega),aK.keep ⟨ae,ae,ae,ae,⟨ax (by omega),rfl⟩,trivial⟩ ⟨ae,⟨?_,rfl⟩,trivial⟩⟩;show some (Blk.row _ _ (List.set _ k (cd ⟨d.n,d.m⟩)) true)=some (Blk.row _ _ _ true)
  rw[<- List.map_set,JO kR (by simp[cK])]
 .obtain rfl:k=s.data.length:=by simp at h1;omega
  refine al rfl ?_;rw[List.take_of_length_le (by simp[cK]),Nat.sub_self,List.replicate_zero,List.append_nil];rfl
theorem wN(s:cG):NQ.Fn cx 14 [.agg (cg s)] (.tuple [.d (.slice 2 ((dw s).1.map cd)),.d (.int .i64 (dw s).2)]) []:=by
 refine aU bp mixed Tryz.func14 ?_;conv=>whnf
 (refine⟨_,_,jI s,?_⟩;conv=>whnf)
 cases hv:dX s with
 |false =>
  conv=>whnf
  refine al rfl ?_;rw[dw,if_neg (by rw[hv];simp)];rfl
 |true =>
  conv=>whnf
  refine ak (λh1=>?_) (λh1=>?_) <;> (rw[h1];conv=>whnf)
  .refine al rfl ?_;rw[dw,if_pos hv,if_neg (by simpa using h1)];rfl
  . (refine⟨_,_,wh s (by have:=mw hv;omega),?_⟩;conv=>whnf)
    refine al rfl ?_;rw[dw,if_pos hv,if_pos (by simpa using h1)];rfl
noncomputable def PI:Cx:={cx with chg:=gX [(96,9)]}
theorem Vw:bD PI:=bp
theorem Ti:PI.P.follows .mixedOrders=true:=mixed
theorem JP(s:cG)(ah:Bs)(k:cR)(a b:Int):NQ.Fn cx 47 [.agg (cg s),.str ah,.agg (cd k),.int .i64 a,.int .i64 b] (.tuple [.agg ((gK (lF s ah k a b).1).map .d),.d (.int .i64 (lF s ah k a b).2)]) []:=by
 refine jn (pv:=pv0) (cx:=PI) ?_;refine bt [] (fun|3=>[33333]|9=>[90050]|_=>[]) Vw Ti Tryz.func47 ?_;have bad:wJ s ah k a b=false->lF s ah k a b=(xO,1):=λh=>by rw[lF,if_neg (by rw[h];simp)]
 have hP:wJ s ah k a b=((nO k&&(qj a b&&(bk ah&& !kQ ah)))&&(dX s&&(bJ s.name ah).1)):=rfl;conv=>whnf
 (refine⟨_,_,yA k,?_⟩;conv=>whnf)
 obtain⟨q1,hL⟩:∃q,nO k=q:=⟨_,rfl⟩
 rw[hL]at hP ⊢;cases q1 with
 |false =>
  conv=>whnf
  exact iQ rfl rfl (by rw[bad hP];rfl)
 |true =>
 conv=>whnf
 (refine⟨_,_,yB a b,?_⟩;conv=>whnf)
 obtain⟨q1,hL⟩:∃q,qj a b=q:=⟨_,rfl⟩
 rw[hL]at hP ⊢;cases q1 with
 |false =>
  conv=>whnf
  exact iQ rfl rfl (by rw[bad hP];rfl)
 |true =>
 conv=>whnf
 (refine⟨_,_,mW ah,?_⟩;conv=>whnf)
 obtain⟨q1,kM⟩:∃q,bk ah=q:=⟨_,rfl⟩
 rw[kM]at hP ⊢;cases q1 with
 |false =>
  conv=>whnf
  exact iQ rfl rfl (by rw[bad hP];rfl)
 |true =>
 conv=>whnf
 (refine⟨_,_,JR ah,?_⟩;conv=>whnf)
 obtain⟨q1,hL⟩:∃q,kQ ah=q:=⟨_,rfl⟩
 rw[hL]at hP ⊢;cases q1 with
 |true =>
  conv=>whnf
  exact iQ rfl rfl (by rw[bad hP];rfl)
 |false =>
 conv=>whnf
 obtain⟨q1,kc⟩:∃q,dX s=q:=⟨_,rfl⟩
 cases q1 with
 |false =>
  refine⟨[5,7,10],_,MJ s kc,⟨rfl,rfl,rfl⟩,?_⟩;conv=>whnf
  refine aM ?_;conv=>whnf
  exact iQ rfl rfl (by rw[bad (by rw[hP,kc];rfl)];rfl)
 |true =>
 obtain⟨t1,t2,t3⟩:=Ba kc;refine⟨[5,7,10],_,MK s kc (by omega) (λd hd=>by have:=t2 d hd;omega) (by omega),⟨rfl,rfl,rfl⟩,?_⟩;conv=>whnf
 refine aM ?_;conv=>whnf
 (refine⟨_,_,oe s.name ah,?_⟩;conv=>whnf)
 obtain⟨q1,ku⟩:∃q,(bJ s.name ah).1=q:=⟨_,rfl⟩
 rw[ku]at ⊢;cases q1 with
 |false =>
  conv=>whnf
  exact iQ rfl rfl (by rw[bad (by rw[hP,kc,ku];rfl)];rfl)
 |true =>
 conv=>whnf
 have hM:lF s ah k a b=(lz s ah k a b,0):=by rw[lF,if_pos (by rw[hP,kc,ku];rfl)]
 have fS:=UF (setBytes s) ah k.n k.alg a b (by have:=LQ s kc;omega) (by have:=fo kM;omega)
 repeat' (first
  |(refine bV ?_;conv=>whnf)
  |(refine⟨_,_,fS,?_⟩;conv=>whnf)
  |exact iQ rfl rfl (by rw[hM];rfl)
  |fail)
def pB(af:Bs)(s:Signed):Bool:=(s.set.type==2)&&(s.set.name != af)
def mF(af:Bs)(l:List Signed):List (Bs×D):=l.foldl (λm s=>if pB af s=true then cM s.set.name (.bool true) m else m) []
def gI(af:Bs)(l:List Signed)(n:Bs):Bool:=l.any λs=>pB af s&&(s.set.name==n)
theorem CE(af:Bs)(l:List Signed)(s:Signed):mF af (l++[s])=if pB af s=true then cM s.set.name (.bool true) (mF af l)else mF af l:=by
 unfold mF;rw[List.foldl_append];rfl
theorem Ty{α:Type}{p:List α->Prop}(h0:p [])(h1:∀l x,p l->p (l++[x])):∀l,p l:=λl=>by
 have:∀n (l:List α),l.length=n->p l:=by
  intro n;induction n with
  |zero=>intro l hl;rw[List.eq_nil_of_length_eq_zero hl];exact h0
  |succ n ih =>
   intro l hl;have kj:l≠[]:=λe=>by rw[e]at hl;cases hl
   rw[<- List.dropLast_concat_getLast kj];exact h1 _ _ (ih _ (by rw[List.length_dropLast];omega))
 exact this _ l rfl
theorem MT(af n:Bs)(l:List Signed):bG n (mF af l)=if gI af l n=true then some (.bool true)else none:=by
 induction l using Ty with
 |h0=>rfl
 |h1 l s ih =>
  rw[CE];have e:gI af (l++[s]) n=(gI af l n||(pB af s&&(s.set.name==n))):=by simp[gI]
  rw[e];by_cases h:pB af s=true
  .rw[if_pos h,qg,ih,h];by_cases h2:s.set.name=n
   .rw[if_pos h2.symm];simp[h2]
   .rw[if_neg (λe=>h2 e.symm)];have:(s.set.name==n)=false:=by simpa using h2
    rw[this];simp
  .rw[if_neg h,ih];have h:pB af s=false:=by simpa using h
   rw[h];simp
def gy(hX:Bs->Bool)(cut:Bs)(s:Signed):Bs:=if hX s.set.name=true then s.set.name else if (!(cut==[]))=true then(if (bJ s.set.name cut).1=true then cut else[])else cut
def sD(cut:Bs)(s:Signed):Bool:=(cut==[])||((s.set.type != 2)&&(s.set.type != 1))
def lE(hX:Bs->Bool):Bs->List Signed->List Bool
 |_,[]=>[]
 |cut,s::t=>sD (gy hX cut s) s::lE hX (gy hX cut s) t
def lW(z:aL):List Bool:=lE (gI z.af z.aj) [] z.aj
theorem rS(hX:Bs->Bool):∀(cut:Bs) (l:List Signed),(lE hX cut l).length=l.length
 |_,[]=>rfl
 |cut,s::t=>by simp[lE,rS hX _ t]
theorem JN{α:Type}(acc:List α)(x y:α){k n:Nat}(h:acc.length=k)(hn:k<n):(acc++List.replicate (n-k) x).set k y=(acc++[y])++List.replicate (n-(k+1)) x:=by
 rw[List.set_append_right _ _ (by omega),h,Nat.sub_self,show n-k=(n-(k+1))+1 by omega,List.replicate_succ,List.set_cons_zero,List.append_assoc];rfl
theorem Lp(z:aL)(hl:z.aj.length<=100000):NQ.Fn cx 45 [.agg (aX z)] (.d (.slice 1 ((lW z).map kg))) []:=by
 refine aU bp mixed Tryz.func45 ?_;conv=>whnf
 refine⟨Nat,λk=>⟨[(1,.ptr 1 0),(3,.omap 12),(14,.d (.slice 5 (z.aj.map aw))),(15,.d (.int .i64 ((z.aj.map aw).length:Int))),(16,.d (.int .i64 k))],[(1,.box ((aX z).map .d)),(12,.smap (mF z.af (z.aj.take k)))]⟩,
  λk=>k<=z.aj.length,λk=>z.aj.length-k,⟨0,by omega,aK.keep ⟨ae,ae,ae,ae,ae,trivial⟩ ⟨ae,ae,trivial⟩⟩,λk hk=>?_⟩
 conv=>whnf
 refine ak (λh1=>?_) (λh1=>?_) <;> (rw[h1];conv=>whnf)
 .have hA:k<z.aj.length:=by simp at h1;omega
  obtain⟨s,hQ⟩:∃s,z.aj[k]? =some s:=⟨_,au hA⟩
  refine⟨aD k,aw s,aN hQ,?_⟩;conv=>whnf
  have hm:mF z.af (z.aj.take (k+1))=if pB z.af s=true then cM s.set.name (.bool true) (mF z.af (z.aj.take k))else mF z.af (z.aj.take k):=by rw[bP hQ,CE]
  have again:∀st,aK cx st ⟨[(1,.ptr 1 0),(3,.omap 12),(14,.d (.slice 5 (z.aj.map aw))),(15,.d (.int .i64 ((z.aj.map aw).length:Int))),(16,.d (.int .i64 ((k+1:Nat):Int)))],[(1,.box ((aX z).map .d)),(12,.smap (mF z.af (z.aj.take (k+1))))]⟩ ->
   ∃y:Nat,y<=z.aj.length/\z.aj.length-y<z.aj.length-k/\aK cx st ⟨[(1,.ptr 1 0),(3,.omap 12),(14,.d (.slice 5 (z.aj.map aw))),(15,.d (.int .i64 ((z.aj.map aw).length:Int))),(16,.d (.int .i64 y))],[(1,.box ((aX z).map .d)),(12,.smap (mF z.af (z.aj.take y)))]⟩:=λst hw=>⟨k+1,hA,by omega,hw⟩
  rw[hm]at again
  (refine ak (λh=>?_) (λh=>?_) <;> (rw[h];conv=>whnf))
  .have kL:=h
   (refine ak (λh=>?_) (λh=>?_) <;> (rw[h];conv=>whnf))
   .rw[if_pos (by rw[pB,kL];exact h)]at again;exact again _ (aK.keep ⟨ae,ae,ae,ae,⟨ax (by omega),rfl⟩,trivial⟩ ⟨ae,ae,trivial⟩)
   .rw[if_neg (by rw[pB,kL,ic];show ¬(!(s.set.name==z.af))=true;rw[h];simp)]at again;exact again _ (aK.keep ⟨ae,ae,ae,ae,⟨ax (by omega),rfl⟩,trivial⟩ ⟨ae,ae,trivial⟩)
  .rw[if_neg (by rw[pB];show ¬((s.set.type==2)&&_)=true;rw[show(s.set.type==2)=false from h];simp)]at again;exact again _ (aK.keep ⟨ae,ae,ae,ae,⟨ax (by omega),rfl⟩,trivial⟩ ⟨ae,ae,trivial⟩)
 .obtain rfl:k=z.aj.length:=by simp at h1;omega
  refine⟨by omega,.inl rfl,by omega,by(simp only[aA];omega),by(simp only[aA];omega),?_⟩;conv=>whnf
  refine⟨(Nat×Bs)×List Bool,λx=>⟨[(3,.omap 12),(6,.own 40),(7,.d (.str x.1.2)),(42,.d (.slice 5 (z.aj.map aw))),(43,.d (.int .i64 ((z.aj.map aw).length:Int))),(44,.d (.int .i64 x.1.1))],[(1,.box ((aX z).map .d)),(12,.smap (mF z.af z.aj)),(40,.row 4 1 ((x.2++List.replicate (z.aj.length-x.1.1) false).map kg) true)]⟩,
   λx=>x.1.1<=z.aj.length/\x.2.length=x.1.1/\x.2++lE (gI z.af z.aj) x.1.2 (z.aj.drop x.1.1)=lW z,λx=>z.aj.length-x.1.1,
   ⟨((0,[]),[]),⟨Nat.zero_le _,rfl,rfl⟩,aK.keep ⟨ae,ae,ae,ae,ae,ae,trivial⟩ ⟨ae,⟨by(show some (Blk.smap (mF z.af (z.aj.take z.aj.length)))=some (Blk.smap _);rw[List.take_length]),rfl⟩,⟨by(show some (Blk.row _ _ (List.replicate ((z.aj.map aw).length:Int).toNat _) true)=some (Blk.row _ _ _ true);simp[kg];done),rfl⟩,trivial⟩⟩,?_⟩
  rintro⟨⟨k,cut⟩,acc⟩ ⟨hk,ha,hc⟩;simp only at hk ha hc;conv=>whnf
  refine ak (λh1=>?_) (λh1=>?_) <;> (rw[h1];conv=>whnf)
  .have hA:k<z.aj.length:=by simp at h1;omega
   obtain⟨s,hQ⟩:∃s,z.aj[k]? =some s:=⟨_,au hA⟩
   rw[drop_cons hQ,lE]at hc;refine⟨aD k,aw s,aN hQ,?_⟩;conv=>whnf
   obtain⟨r,hr⟩:∃r,bG s.set.name (mF z.af z.aj)=r:=⟨_,rfl⟩
   rw[hr];rw[MT]at hr;have again:∀c b,gy (gI z.af z.aj) cut s=c->sD c s=b-> ∀st,aK cx st ⟨[(3,.omap 12),(6,.own 40),(7,.d (.str c)),(42,.d (.slice 5 (z.aj.map aw))),(43,.d (.int .i64 ((z.aj.map aw).length:Int))),(44,.d (.int .i64 ((k+1:Nat):Int)))],[(1,.box ((aX z).map .d)),(12,.smap (mF z.af z.aj)),(40,.row 4 1 ((acc++[b]++List.replicate (z.aj.length-(k+1)) false).map kg) true)]⟩ ->
    ∃y:(Nat×Bs)×List Bool,(y.1.1<=z.aj.length/\y.2.length=y.1.1/\y.2++lE (gI z.af z.aj) y.1.2 (z.aj.drop y.1.1)=lW z)/\z.aj.length-y.1.1<z.aj.length-k/\aK cx st ⟨[(3,.omap 12),(6,.own 40),(7,.d (.str y.1.2)),(42,.d (.slice 5 (z.aj.map aw))),(43,.d (.int .i64 ((z.aj.map aw).length:Int))),(44,.d (.int .i64 y.1.1))],[(1,.box ((aX z).map .d)),(12,.smap (mF z.af z.aj)),(40,.row 4 1 ((y.2++List.replicate (z.aj.length-y.1.1) false).map kg) true)]⟩:=by
    rintro c b rfl rfl st hw;exact⟨((k+1,_),acc++[_]),⟨hA,by(simp;omega),by(rw[<- hc,List.append_assoc];rfl)⟩,by(show z.aj.length-(k+1)<z.aj.length-k;omega),hw⟩
   have kd:((acc++List.replicate (z.aj.length-k) false).map kg)[k]? =some [D.bool false]:=by
    rw[bc,cL (by omega),List.getElem?_replicate,if_pos (by omega)];rfl
   have km:k<((acc++List.replicate (z.aj.length-k) false).map kg).length:=by simp;omega
   have hI:∀b,some (Blk.row 4 1 (((acc++List.replicate (z.aj.length-k) false).map kg).set k [D.bool b]) true)=some (Blk.row 4 1 ((acc++[b]++List.replicate (z.aj.length-(k+1)) false).map kg) true):=λb=>by
    rw[show[D.bool b]=kg b from rfl, <- List.map_set,JN acc false b ha hA]
   cases hcn:gI z.af z.aj s.set.name with
   |true =>
    rw[if_pos hcn]at hr;subst hr;have kT:gy (gI z.af z.aj) cut s=s.set.name:=by rw[gy,if_pos hcn]
    have again:=again s.set.name;conv=>whnf
    repeat' (first
     |(refine ak (λh=>?_) (λh=>?_) <;> (rw[h];conv=>whnf))
     |(refine⟨aD k,km,?_⟩;conv=>whnf)
     |(refine⟨_,kd,?_⟩;conv=>whnf)
     |exact again _ kT (by(simp only[sD, *, if_true,if_false,aY];done)) _ (aK.keep ⟨ae,ae,ae,ae,ae,⟨ax (k:=k) (by omega),rfl⟩,trivial⟩ ⟨ae,ae,⟨hI _,rfl⟩,trivial⟩)
     |fail)
   |false =>
    rw[if_neg (by rw[hcn];simp)]at hr;subst hr;have ke:¬gI z.af z.aj s.set.name=true:=by rw[hcn];simp
    have n1:(!(cut==[]))=true->(bJ s.set.name cut).1=true->gy (gI z.af z.aj) cut s=cut:=λh1 h2=>by rw[gy,if_neg ke,if_pos h1,if_pos h2]
    have n2:(!(cut==[]))=true->(bJ s.set.name cut).1=false->gy (gI z.af z.aj) cut s=[]:=λh1 h2=>by rw[gy,if_neg ke,if_pos h1,if_neg (by rw[h2];simp)]
    have n3:(!(cut==[]))=false->gy (gI z.af z.aj) cut s=cut:=λh1=>by rw[gy,if_neg ke,if_neg (by rw[h1];simp)]
    clear ke;conv=>whnf
    repeat' (first
     |(refine ak (λh=>?_) (λh=>?_) <;> (rw[h];conv=>whnf))
     |(refine⟨_,_,oe s.set.name cut,?_⟩;conv=>whnf)
     |(refine⟨aD k,km,?_⟩;conv=>whnf)
     |(refine⟨_,kd,?_⟩;conv=>whnf)
     |exact again cut _ (n1 (by assumption) (by simpa using (by assumption:(!(bJ s.set.name cut).1)=false))) (by simp only[sD, *, if_true,if_false,aY];done) _ (aK.keep ⟨ae,ae,ae,ae,ae,⟨ax (k:=k) (by omega),rfl⟩,trivial⟩ ⟨ae,ae,⟨hI _,rfl⟩,trivial⟩)
     |exact again [] true (n2 (by assumption) (by simpa using (by assumption:(!(bJ s.set.name cut).1)=true))) rfl _ (aK.keep ⟨ae,ae,ae,ae,ae,⟨ax (k:=k) (by omega),rfl⟩,trivial⟩ ⟨ae,ae,⟨hI _,rfl⟩,trivial⟩)
     |exact again cut _ (n3 (by assumption)) (by simp only[sD, *, if_true,if_false,aY];done) _ (aK.keep ⟨ae,ae,ae,ae,ae,⟨ax (k:=k) (by omega),rfl⟩,trivial⟩ ⟨ae,ae,⟨hI _,rfl⟩,trivial⟩)
     |fail)
  .obtain rfl:k=z.aj.length:=by simp at h1;omega
   rw[List.drop_length,lE,List.append_nil]at hc;refine al rfl ?_;rw[<- hc,Nat.sub_self,List.replicate_zero,List.append_nil];rfl
def BI(a b:cR):Int:=dB a.n b.n
def Ui:List D->Int
 | .int _ n::_=>n
 |_=>0
def RO(x y:List D):Int:=dB (Ui x) (Ui y)
theorem Jd(l:List cR):lA BI l:=lA.key (λz=>z.n) λx _ y _=>by unfold BI dB;split <;> (try split) <;> omega
theorem Ot(l:List cR):gS RO (l.map cd)=(gS BI l).map cd:=Dh cd BI RO l λx _ y _=>rfl
def kH(l:List cR):List cR:=gS BI l
theorem uO(l:List cR):(kH l).Perm l:=nX (Jd l)
def oY(z:aL)(keys:List cR)(a b:Int):Bool:= !((decide ((keys.length:Int)<1)||decide ((keys.length:Int)>6))|| !qj a b|| !bf z)
def yQ(l:List cR)(i:Nat):Bool:=match l[i-1]?, l[i]? with|some p,some k=>decide ((i:Int)>0)&&(p.n==k.n)|_,_=>false
def Ak(l:List cR):Bool:=(List.range l.length).any (yQ l)
def xH(af:Bs)(keys:List cR)(a b:Int)(own:Bool)(s:Signed):Signed:=⟨s.set,if own=true then keys.map (λk=>lz s.set af k a b)else[]⟩
def gE(af:Bs)(keys:List cR)(a b:Int):List Bool->List Signed->List Signed
 |o::os,s::t=>xH af keys a b o s::gE af keys a b os t
 |_,_=>[]
def jJ(z:aL)(keys:List cR)(a b:Int):aL:=⟨z.af,gE z.af keys a b (lW z) z.aj⟩
def iL(z:aL)(keys:List cR)(a b:Int):aL×Int :=
 if oY z keys a b=false then(iS,1)
 else if keys.all nO=false then(iS,1)
 else if Ak (kH keys)=true then(iS,5)
 else(jJ z (kH keys) a b,0)
theorem Sp(a b:cR):NQ.Fn cx 43 [.agg (cd a),.agg (cd b)] (.d (.int .i64 (BI a b))) []:=by
 refine aU bp mixed Tryz.func43 ?_;conv=>whnf
 (refine⟨_,_,lL a.n b.n,?_⟩;conv=>whnf)
 exact al rfl rfl
theorem Oq(l:List cR)(hl:l.length<=100000)(fl:Bool):FnR cx 42 false 31 2 (l.map cd) fl [.fn 43 [] []] ((kH l).map cd):=by
 unfold kH;rw[<- Ot];exact GA (cx:=cx) (ρ:=Tryz.Bh) Tryz.UE (k:=2) Tryz.isAgg31 Tryz.sizeOf31 ⟨_,Tryz.func42,by kernel_rfl,rfl⟩
  (λx hx y hy=>by
   obtain⟨a,ha,rfl⟩:=List.mem_map.1 hx;obtain⟨b,hb,rfl⟩:=List.mem_map.1 hy;exact Sp a b) (enters_of Tryz.func43 (by kernel_rfl) rfl) ((Jd l).map λx _ y _=>rfl) (by rw[aA];omega)
noncomputable def EZ:Cx:={cx with chg:=gX [(42,2)]}
theorem Vn:bD EZ:=bp
theorem SZ:EZ.P.follows .mixedOrders=true:=mixed
theorem Mx(z:aL)(keys:List cR)(a b:Int)(hl:keys.length<=100000):NQ.Fn EZ 15 [.agg (aX z),.slice 2 (keys.map cd),.int .i64 a,.int .i64 b] (.tuple [.agg ((aX (iL z keys a b).1).map .d),.d (.int .i64 (iL z keys a b).2)]) []:=by
 refine eS (fun|10=>[88888]|34=>[300]|_=>[]) Vn SZ Tryz.func15 ?_;have bad:oY z keys a b=false->iL z keys a b=(iS,1):=λh=>by rw[iL,if_pos h]
 have hT:oY z keys a b= !((decide ((keys.length:Int)<1)||decide ((keys.length:Int)>6))|| !qj a b|| !bf z):=rfl;conv=>whnf
 refine ak (λh1=>?_) (λh1=>?_) <;> (rw[h1];conv=>whnf)
 .exact al rfl (by rw[bad (by rw[hT];simp only[aA]at h1;simp only[h1,if_true,if_false,aY])];rfl)
 refine ak (λh2=>?_) (λh2=>?_) <;> (rw[h2];conv=>whnf)
 .exact al rfl (by rw[bad (by rw[hT];simp only[aA]at h2;simp only[h2,if_true,if_false,aY])];rfl)
 simp only[aA]at h1 h2;rw[h1,h2]at hT
 (refine⟨_,_,yB a b,?_⟩;conv=>whnf)
 obtain⟨q1,hL⟩:∃q,qj a b=q:=⟨_,rfl⟩
 rw[hL]at hT ⊢;cases q1 with
 |false =>
  conv=>whnf
  exact al rfl (by rw[bad (by rw[hT];simp only[if_true,if_false,aY])];rfl)
 |true =>
 conv=>whnf
 (refine⟨_,_,jB z,?_⟩;conv=>whnf)
 obtain⟨q1,hv⟩:∃q,bf z=q:=⟨_,rfl⟩
 rw[hv]at hT ⊢;cases q1 with
 |false =>
  conv=>whnf
  exact al rfl (by rw[bad (by rw[hT];simp only[if_true,if_false,aY])];rfl)
 |true =>
 conv=>whnf
 have hlen:1<=keys.length/\keys.length<=6:=by simp at h1 h2;omega
 clear bad h1 h2;have hM:oY z keys a b=true:=by rw[hT];rfl
 refine⟨Nat,λk=>⟨[(1,.d (.slice 2 (keys.map cd))),(2,.d (.int .i64 a)),(3,.d (.int .i64 b)),(4,.ptr 4 0),(8,.ptr 8 0),(44,.d (.slice 2 (keys.map cd))),(45,.d (.int .i64 ((keys.map cd).length:Int))),(46,.d (.int .i64 k))],[(4,.box ((aX z).map .d)),(8,.box [.d (.str []),.nil 5])]⟩,
  λk=>k<=keys.length/\(keys.take k).all nO=true,λk=>keys.length-k,⟨0,⟨by omega,rfl⟩,aK.keep ⟨ae,ae,ae,ae,ae,ae,ae,ae,trivial⟩ ⟨ae,ae,trivial⟩⟩,?_⟩
 rintro k ⟨hk,hD⟩;conv=>whnf
 refine ak (λh1=>?_) (λh1=>?_) <;> (rw[h1];conv=>whnf)
 .have hA:k<keys.length:=by simp at h1;omega
  obtain⟨q,kf⟩:∃q,keys[k]? =some q:=⟨_,au hA⟩
  refine⟨aD k,cd q,aN kf,?_⟩;conv=>whnf
  (refine⟨_,_,yA q,?_⟩;conv=>whnf)
  obtain⟨q1,hL⟩:∃x,nO q=x:=⟨_,rfl⟩
  rw[hL];cases q1 with
  |false =>
   conv=>whnf
   have ke:keys.all nO=false:=by
    rw[List.all_eq_false];exact⟨q,aC kf,by rw[hL];simp⟩
   exact al rfl (by rw[iL,if_neg (by rw[hM];simp),if_pos ke];rfl)
  |true =>
   conv=>whnf
   exact⟨k+1,⟨hA,by rw[bP kf,List.all_append,hD];simp[hL]⟩,by(show keys.length-(k+1)<keys.length-k;omega),aK.keep ⟨ae,ae,ae,ae,ae,ae,ae,⟨ax (by omega),rfl⟩,trivial⟩ ⟨ae,ae,trivial⟩⟩
 obtain rfl:k=keys.length:=by simp at h1;omega
 rw[List.take_length]at hD;refine⟨by omega,.inl rfl,by omega,by(simp only[aA];omega),by(simp only[aA];omega),?_⟩;conv=>whnf
 refine⟨by simp,?_⟩;conv=>whnf
 refine⟨_,Oq keys (by omega) _,?_⟩;conv=>whnf
 have kW:(kH keys).length=keys.length:=(uO keys).length_eq;have hJ:iL z keys a b=if Ak (kH keys)=true then(iS,5)else(jJ z (kH keys) a b,0):=by rw[iL,if_neg (by rw[hM];simp),if_neg (by rw[hD];simp)]
 have kk:∀k∈kH keys,nO k=true:=λk hk=>aH.1 hD k ((uO keys).mem_iff.1 hk)
 generalize kH keys=K at kW hJ kk ⊢
 refine⟨Nat,λk=>⟨[(2,.d (.int .i64 a)),(3,.d (.int .i64 b)),(4,.ptr 4 0),(8,.ptr 8 0),(12,.own 57),(63,.own 57),(64,.d (.int .i64 ((K.map cd).length:Int))),(65,.d (.int .i64 k))],[(4,.box ((aX z).map .d)),(8,.box [.d (.str []),.nil 5]),(57,.row 31 2 (K.map cd))]⟩,
  λk=>k<=K.length/\(List.range k).any (yQ K)=false,λk=>K.length-k,⟨0,⟨by omega,rfl⟩,aK.keep ⟨ae,ae,ae,ae,ae,ae,ae,ae,trivial⟩ ⟨ae,ae,ae,trivial⟩⟩,?_⟩
 rintro k ⟨hk,kt⟩;conv=>whnf
 refine ak (λh1=>?_) (λh1=>?_) <;> (rw[h1];conv=>whnf)
 .have hA:k<K.length:=by simp at h1;omega
  obtain⟨q,kf⟩:∃q,K[k]? =some q:=⟨_,au hA⟩
  refine⟨aD k,by(show k<_;rw[aA];exact hA),?_⟩;conv=>whnf
  refine⟨cd q,aN kf,?_⟩;conv=>whnf
  have found:yQ K k=true->iL z keys a b=(iS,5):=λh=>by
   rw[hJ,if_pos (show Ak K=true from List.any_eq_true.2 ⟨k,List.mem_range.2 hA,h⟩)]
  have again:yQ K k=false->(List.range (k+1)).any (yQ K)=false:=λh=>by rw[List.range_succ,List.any_append,kt];simp[h]
  obtain⟨p,kF⟩:∃p,K[k-1]? =some p:=⟨_,au (by omega)⟩
  have hV:yQ K k=(decide ((k:Int)>0)&&(p.n==q.n)):=by rw[yQ,kF,kf]
  rw[hV]at found again
  repeat' (first
   |(refine bV ?_;conv=>whnf)
   |(refine ak (λh=>?_) (λh=>?_) <;> (rw[h];conv=>whnf))
   |(refine⟨(na (by assumption) (by omega)).1,by(show(IntKind.i64.wrap ((k:Int)-1)).toNat<_;rw[(na (by assumption) (by omega)).2,aA];omega),?_⟩;conv=>whnf)
   |(refine⟨cd p,lR (by assumption) (by omega) kF,?_⟩;conv=>whnf)
   |exact al rfl (by rw[found (by simp only[*, if_true,if_false,aY];done)];rfl)
   |exact⟨k+1,⟨hA,again (by simp only[*, if_true,if_false,aY];done)⟩,by(show K.length-(k+1)<K.length-k;omega),aK.keep ⟨ae,ae,ae,ae,ae,ae,ae,⟨ax (by omega),rfl⟩,trivial⟩ ⟨ae,ae,ae,trivial⟩⟩
   |fail)
 obtain rfl:k=K.length:=by simp at h1;omega
 have ho:=bO hv;rw[hJ,if_neg (by rw[Ak,kt];simp)];clear hJ kt hT hM hD
 (refine⟨_,_,Lp z (by have:=ho.few;omega),?_⟩;conv=>whnf)
 (refine bV ?_;conv=>whnf)
 have kO:=ho.few;refine⟨by omega,.inl rfl,by omega,by(simp only[aA];omega),by(simp only[aA];omega),?_⟩;conv=>whnf
 have kV:(lW z).length=z.aj.length:=rS _ _ _;have kX:=rn hv;refine⟨Nat×List Signed,λx=>⟨[(2,.d (.int .i64 a)),(3,.d (.int .i64 b)),(4,.ptr 4 0),(8,.ptr 8 0),(12,.own 57),(15,.d (.slice 1 ((lW z).map kg))),(16,.ptr 16 0),(95,.d (.slice 5 (z.aj.map aw))),(96,.d (.int .i64 ((z.aj.map aw).length:Int))),(97,.d (.int .i64 x.1))],[(4,.box ((aX z).map .d)),(8,.box [.d (.str []),.nil 5]),(16,.box [.d (.str z.af),.own 92]),(57,.row 31 2 (K.map cd)),(92,.row 68 5 ((x.2++List.replicate (z.aj.length-x.1) jA).map aw) true)]⟩,
  λx=>x.1<=z.aj.length/\x.2.length=x.1/\x.2++gE z.af K a b ((lW z).drop x.1) (z.aj.drop x.1)=(jJ z K a b).aj,λx=>z.aj.length-x.1,
  ⟨(0,[]),⟨Nat.zero_le _,rfl,rfl⟩,aK.keep ⟨ae,ae,ae,ae,ae,ae,ae,ae,ae,ae,trivial⟩ ⟨ae,ae,ae,ae,⟨by(show some (Blk.row _ _ (List.replicate ((z.aj.map aw).length:Int).toNat _) true)=some (Blk.row _ _ _ true);simp[aw,jA];done),rfl⟩,trivial⟩⟩,?_⟩
 rintro⟨k,acc⟩ ⟨hk,kx,hc⟩;simp only at hk kx hc;conv=>whnf
 refine ak (λh1=>?_) (λh1=>?_) <;> (rw[h1];conv=>whnf)
 .have hA:k<z.aj.length:=by simp at h1;omega
  obtain⟨s,hQ⟩:∃s,z.aj[k]? =some s:=⟨_,au hA⟩
  obtain⟨o,hN⟩:∃o,(lW z)[k]? =some o:=⟨_,au (by omega)⟩
  rw[drop_cons hQ,drop_cons hN,gE]at hc;have xh:=(kX s (aC hQ)).1;refine⟨aD k,aw s,aN hQ,?_⟩;conv=>whnf
  (refine⟨_,_,nI _ (by rw[aA];omega),?_⟩;conv=>whnf)
  refine⟨aD k,kg o,aN hN,?_⟩;conv=>whnf
  have kd:((acc++List.replicate (z.aj.length-k) jA).map aw)[k]? =some (aw jA):=by
   rw[bc,cL (by omega),List.getElem?_replicate,if_pos (by omega)];rfl
  have km:k<((acc++List.replicate (z.aj.length-k) jA).map aw).length:=by simp;omega
  have hI:∀t:Signed,some (Blk.row 68 5 (((acc++List.replicate (z.aj.length-k) jA).map aw).set k (aw t)) true)=some (Blk.row 68 5 ((acc++[t]++List.replicate (z.aj.length-(k+1)) jA).map aw) true):=λt=>by
   rw[<- List.map_set,JN acc jA t kx hA]
  have again:∀t,xH z.af K a b o s=t-> ∀st,aK EZ st ⟨[(2,.d (.int .i64 a)),(3,.d (.int .i64 b)),(4,.ptr 4 0),(8,.ptr 8 0),(12,.own 57),(15,.d (.slice 1 ((lW z).map kg))),(16,.ptr 16 0),(95,.d (.slice 5 (z.aj.map aw))),(96,.d (.int .i64 ((z.aj.map aw).length:Int))),(97,.d (.int .i64 ((k+1:Nat):Int)))],[(4,.box ((aX z).map .d)),(8,.box [.d (.str []),.nil 5]),(16,.box [.d (.str z.af),.own 92]),(57,.row 31 2 (K.map cd)),(92,.row 68 5 ((acc++[t]++List.replicate (z.aj.length-(k+1)) jA).map aw) true)]⟩ ->
   ∃y:Nat×List Signed,(y.1<=z.aj.length/\y.2.length=y.1/\y.2++gE z.af K a b ((lW z).drop y.1) (z.aj.drop y.1)=(jJ z K a b).aj)/\z.aj.length-y.1<z.aj.length-k/\aK EZ st ⟨[(2,.d (.int .i64 a)),(3,.d (.int .i64 b)),(4,.ptr 4 0),(8,.ptr 8 0),(12,.own 57),(15,.d (.slice 1 ((lW z).map kg))),(16,.ptr 16 0),(95,.d (.slice 5 (z.aj.map aw))),(96,.d (.int .i64 ((z.aj.map aw).length:Int))),(97,.d (.int .i64 y.1))],[(4,.box ((aX z).map .d)),(8,.box [.d (.str []),.nil 5]),(16,.box [.d (.str z.af),.own 92]),(57,.row 31 2 (K.map cd)),(92,.row 68 5 ((y.2++List.replicate (z.aj.length-y.1) jA).map aw) true)]⟩:=by
   rintro t rfl st hw;exact⟨(k+1,acc++[_]),⟨hA,by(simp;omega),by(rw[<- hc,List.append_assoc];rfl)⟩,by(show z.aj.length-(k+1)<z.aj.length-k;omega),hw⟩
  cases o with
  |false =>
   conv=>whnf
   refine⟨aD k,km,?_⟩;conv=>whnf
   refine⟨_,kd,?_⟩;conv=>whnf
   exact again ⟨s.set,[]⟩ rfl _ (aK.keep ⟨ae,ae,ae,ae,ae,ae,ae,ae,ae,⟨ax (k:=k) (by omega),rfl⟩,trivial⟩ ⟨ae,ae,ae,ae,⟨hI ⟨s.set,[]⟩,rfl⟩,trivial⟩)
  |true =>
   conv=>whnf
   refine⟨Nat,λj=>⟨[(2,.d (.int .i64 a)),(3,.d (.int .i64 b)),(4,.ptr 4 0),(8,.ptr 8 0),(12,.own 57),(15,.d (.slice 1 ((lW z).map kg))),(16,.ptr 16 0),(17,.d (.int .i64 k)),(19,.ptr 19 0),(95,.d (.slice 5 (z.aj.map aw))),(96,.d (.int .i64 ((z.aj.map aw).length:Int))),(97,.d (.int .i64 k)),(115,.own 57),(116,.d (.int .i64 ((K.map cd).length:Int))),(117,.d (.int .i64 j))],[(4,.box ((aX z).map .d)),(8,.box [.d (.str []),.nil 5]),(16,.box [.d (.str z.af),.own 92]),(19,.box [.d (.str s.set.name),.d (.int .i64 s.set.type),.d (.int .i64 s.set.aP),.d (.slice 3 (s.set.data.map aQ)),.own 300]),(57,.row 31 2 (K.map cd)),(92,.row 68 5 ((acc++List.replicate (z.aj.length-k) jA).map aw) true),(300,.row 109 6 (((K.take j).map λq=>lz s.set z.af q a b).map gK))]⟩,
    λj=>j<=K.length,λj=>K.length-j,
    ⟨0,Nat.zero_le _,(aK.jv 19 4 300 6 [.d (.str s.set.name),.d (.int .i64 s.set.type),.d (.int .i64 s.set.aP),.d (.slice 3 (s.set.data.map aQ)),.nil 6] 109 6 rfl rfl rfl (by decide)).trans (aK.keep ⟨ae,ae,ae,ae,ae,ae,ae,ae,ae,ae,ae,ae,ae,ae,ae,trivial⟩ ⟨ae,ae,ae,ae,ae,ae,ae,trivial⟩)⟩,?_⟩
   intro j hj;conv=>whnf
   refine ak (λh2=>?_) (λh2=>?_) <;> (rw[h2];conv=>whnf)
   .have kb:j<K.length:=by simp at h2;omega
    obtain⟨q,kv⟩:∃q,K[j]? =some q:=⟨_,au kb⟩
    refine⟨aD j,by(show j<_;rw[aA];exact kb),?_⟩;conv=>whnf
    refine⟨cd q,aN kv,?_⟩;conv=>whnf
    have ko:lF s.set z.af q a b=(lz s.set z.af q a b,0):=by
     rw[lF,if_pos];rw[wJ,kk q (aC kv),hL,ho.af,ho.Rv,ho.set s (aC hQ),ho.under s (aC hQ)];rfl
    have fS:=JP s.set z.af q a b;rw[ko]at fS
    (refine⟨_,_,fS,?_⟩;conv=>whnf)
    refine⟨by(show(List.map gK _).length+1<=_;rw[aA,aA,List.length_take];omega),by(show((List.map gK _).length+1)*56<=_;rw[aA,aA,List.length_take];omega),?_⟩;conv=>whnf
    exact⟨j+1,kb,by(show K.length-(j+1)<K.length-j;omega),aK.keep ⟨ae,ae,ae,ae,ae,ae,ae,ae,ae,ae,ae,ae,ae,ae,⟨ax (by omega),rfl⟩,trivial⟩ ⟨ae,ae,ae,ae,ae,ae,⟨by(show some (Blk.row _ _ (_++_))=some (Blk.row _ _ _);rw[bP kv,List.map_append,List.map_append];rfl),rfl⟩,trivial⟩⟩
   .obtain rfl:j=K.length:=by simp at h2;omega
    refine⟨aD k,km,?_⟩;conv=>whnf
    refine⟨_,kd,?_⟩;conv=>whnf
    have e:xH z.af K a b true s=⟨s.set,(K.take K.length).map λq=>lz s.set z.af q a b⟩:=by rw[xH,if_pos rfl,List.take_length]
    exact again _ e _ (aK.keep ⟨ae,ae,ae,ae,ae,ae,ae,ae,ae,⟨ax (k:=k) (by omega),rfl⟩,trivial⟩ ⟨ae,ae,ae,ae,⟨hI ⟨s.set,(K.take K.length).map λq=>lz s.set z.af q a b⟩,rfl⟩,trivial⟩)
 .obtain rfl:k=z.aj.length:=by simp at h1;omega
  rw[List.drop_length,List.drop_of_length_le (by omega),show gE z.af K a b [] []=[]from rfl,List.append_nil]at hc;refine al rfl ?_;rw[Nat.sub_self,List.replicate_zero,List.append_nil,hc];rfl
def pq:cG:=⟨[],0,0,[]⟩
def isF(s:Bs)(kind:Int)(x:Signed):Bool:=(x.set.name==s)&&(x.set.type==kind)
def mn(z:aL)(s:Bs)(kind:Int):Option Signed:=z.aj.find? (isF s kind)
def wfR(z:aL)(s:Bs)(kind:Int):cG×Bool:=match mn z s kind with|some x=>(x.set,true)|none=>(pq,false)
theorem lO{α:Type}(p:α->Bool):∀l:List α,(match l.findIdx? p with|some k=>l[k]? |none=>none)=l.find? p
 |[]=>rfl
 |x::t=>by
  rw[List.findIdx?_cons,List.find?_cons];cases h:p x with
  |true=>rfl
  |false =>
   have ih:=lO p t;cases hi:t.findIdx? p with
   |none=>rw[hi]at ih;simpa using ih
   |some k=>rw[hi]at ih;simpa using ih
def cO(z:aL):Int:=match mn z z.af 4 with|some x=>(match x.set.data with|d::_=>d.n|[]=>0)|none=>0
def vv(b p:ao):Int:=if dB (cO b.ah) (cO p.ah)=0 then dB p.host b.host else dB (cO b.ah) (cO p.ah)
def mj(af:Bs)(b:Option (Nat×ao))(i:Nat)(p:ao):Option (Nat×ao):=if (p.ah.af != af)=true then b else match b with|none=>some (i,p)|some (j,q)=>if vv q p<0 then some (i,p)else some (j,q)
def lC(af:Bs):Option (Nat×ao)->Nat->List ao->Option (Nat×ao)
 |b,_,[]=>b
 |b,i,p::t=>lC af (mj af b i p) (i+1) t
def tX(zs:List ao)(af:Bs):Option (Nat×ao):=lC af none 0 zs
def bS(zs:List ao)(af:Bs):aL×Bool:=match tX zs af with|some (_,p)=>(p.ah,true)|none=>(iS,false)
theorem wW(x:Signed)(s:Bs)(kind:Int):NQ.Fn cx 178 [.agg (aw x),.ptr [.str s],.ptr [.int .i64 kind]] (.d (.bool (isF s kind x))) []:=by
 refine aU bp mixed Tryz.func178 ?_;conv=>whnf
 repeat' (first
  |(refine ak (λh=>?_) (λh=>?_) <;> (rw[h];conv=>whnf))
  |(refine al rfl ?_;show AV.d (D.bool _)=_;simp only[isF, *, if_true,if_false,aY];done)
  |fail)
theorem yZ(l:List Signed)(p:Signed->Bool)(x y:D)(hn:l.length<=100000)(hf:∀s∈l,NQ.Fn cx 178 [.agg (aw s),x,y] (.d (.bool (p s))) []) :
 NQ.Fn cx 177 [.slice 5 (l.map aw),.fn 178 [] [x,y]] (.d (.int .i64 (match l.findIdx? p with|some k=>(k:Int)|none=> -1))) []:=by
 refine aU bp mixed Tryz.func177 ?_;conv=>whnf
 refine⟨Nat,λk=>⟨[(0,.d (.slice 5 (l.map aw))),(1,.d (.fn 178 [] [x,y])),(7,.d (.int .i64 ((l.map aw).length:Int))),(8,.d (.int .i64 k))],[]⟩,λk=>k<=l.length/\ ∀j y,j<k->l[j]? =some y->p y=false,λk=>l.length-k,
  ⟨0,⟨by omega,λj y h=>by omega⟩,aK.keep ⟨ae,ae,ae,ae,trivial⟩ trivial⟩,λk hk=>?_⟩
 obtain⟨hk,hD⟩:=hk;conv=>whnf
 refine ak (λh1=>?_) (λh1=>?_) <;> (rw[h1];conv=>whnf)
 .have hA:k<l.length:=by simp at h1;omega
  obtain⟨s,hs⟩:∃s,l[k]? =some s:=⟨_,au hA⟩
  refine⟨aD k,aw s,aN hs,?_⟩;conv=>whnf
  (refine⟨_,_,hf s (aC hs),?_⟩;conv=>whnf)
  refine ak (λh2=>?_) (λh2=>?_) <;> (rw[h2];conv=>whnf)
  .refine al rfl ?_;have:l.findIdx? p=some k:=by
    rw[List.findIdx?_eq_some_iff_getElem];obtain⟨g1,g2⟩:=aB.1 hs;refine⟨g1,by rw[g2];exact h2,λj hj=>?_⟩;have:=hD j (l[j]) hj (au (by omega));rw[this];decide
   rw[this];rfl
  .refine⟨k+1,⟨hA,λj y hj hy=>?_⟩,by(show l.length-(k+1)<l.length-k;omega),aK.keep ⟨ae,ae,ae,⟨ax (by omega),rfl⟩,trivial⟩ trivial⟩;rcases Nat.lt_succ_iff_lt_or_eq.1 hj with hj|rfl
   .exact hD j y hj hy
   .rw[hs]at hy;cases hy;exact h2
 .obtain rfl:k=l.length:=by simp at h1;omega
  refine al rfl ?_;have:l.findIdx? p=none:=by
   rw[List.findIdx?_eq_none_iff];intro x hx;obtain⟨i,hi⟩:=cN hx;exact hD i x (aB.1 hi).1 hi
  rw[this];rfl
theorem nk(z:aL)(s:Bs)(kind:Int)(hn:z.aj.length<=100000):NQ.Fn cx 110 [.agg (aX z),.str s,.int .i64 kind] (.tuple [.agg ((cg (wfR z s kind).1).map .d),.d (.bool (wfR z s kind).2)]) []:=by
 refine aU bp mixed Tryz.func110 ?_;conv=>whnf
 (refine⟨_,yZ z.aj (isF s kind) _ _ hn (λx _=>wW x s kind),rfl,?_⟩;conv=>whnf)
 have kp:=lO (isF s kind) z.aj;have ki:wfR z s kind=match z.aj.find? (isF s kind)with|some x=>(x.set,true)|none=>(pq,false):=rfl
 cases hi:z.aj.findIdx? (isF s kind)with
 |none =>
  rw[hi]at kp;rw[<- kp]at ki;conv=>whnf
  exact al rfl (by rw[ki];rfl)
 |some k =>
  rw[hi]at kp;obtain⟨hA,_⟩:=List.findIdx?_eq_some_iff_getElem.1 hi;obtain⟨x,hx⟩:∃x,z.aj[k]? =some x:=⟨_,au hA⟩
  rw[<- kp]at ki;simp only[hx]at ki;conv=>whnf
  refine⟨aD k,aw x,aN hx,?_⟩;conv=>whnf
  exact al rfl (by rw[ki];rfl)
theorem AZ(z:aL)(hn:z.aj.length<=100000)(hs:∀s∈z.aj,dX s.set=true):NQ.Fn cx 109 [.agg (aX z)] (.d (.int .i64 (cO z))) []:=by
 refine aU bp mixed Tryz.func109 ?_;conv=>whnf
 (refine⟨_,_,nk z z.af 4 hn,?_⟩;conv=>whnf)
 cases hf:mn z z.af 4 with
 |none =>
  have e:wfR z z.af 4=(pq,false):=by rw[wfR,hf]
  rw[e];conv=>whnf
  exact al rfl (by rw[cO,hf];rfl)
 |some x =>
  have e:wfR z z.af 4=(x.set,true):=by rw[wfR,hf]
  rw[e];conv=>whnf
  have hx:=List.mem_of_find?_eq_some hf;obtain⟨d0,hd⟩:=wF (hs x hx);obtain⟨d,t,kA⟩:∃d t,x.set.data=d::t:=by
   cases hdd:x.set.data with
   |nil=>rw[hdd]at hd;simp at hd
   |cons d t=>exact⟨d,t,rfl⟩
  refine⟨by decide,aQ d,by rw[kA];rfl,?_⟩;conv=>whnf
  have e:cO z=d.n:=by simp only[cO,hf,kA]
  exact al rfl (by rw[e];rfl)
abbrev sQ(l:List Signed):Blk:= .row 68 5 (l.map aw)
noncomputable def cxW:Cx:={cx with chg:=gX []}
theorem tyW:bD cxW:=bp
theorem tq:cxW.P.follows .mixedOrders=true:=mixed
structure bz where
 w:aZ
 since:Int
 aO:Int
 ah:aL
 aP:Int
 got:List (Bs×List Int)
 aF:List ao
 bq:List (List ao)
def dD(l:List ao):List D:=[.slice 3 (l.map aR)]
def hZ(g:List (Bs×List Int)):List (Bs×D):=g.map λp=>(p.1,.slice 1 (p.2.map dm))
def QM(v:Bool)(o:bz):List AV:=match v with
 |true=>(bu o.w).map .d++[.d (.int .i64 o.since),.d (.int .i64 o.aO),.d (.str o.ah.af),.d (.slice 5 (o.ah.aj.map aw)),.d (.int .i64 o.aP),.omap 90032,.own 90040,.own 90041]
 |false=>(bu o.w).map .d++[.d (.int .i64 0),.d (.int .i64 0),.d (.str []),.nil 5,.d (.int .i64 0),.d .iz,.nil 3,.nil 1]
def gJ(w:aZ):List AV:=(bu w).map .d++[.undef,.undef,.undef,.undef,.undef,.undef,.undef,.undef]
theorem JH(a b:Int):lV [a,b]=if a=0 then b else a:=by
 unfold lV;by_cases h:a=0
 .subst h;by_cases h' :b=0
  .subst h';rfl
  .rw[List.find?_cons_of_neg (by simp),List.find?_cons_of_pos (by simpa using h')];rfl
 .rw[List.find?_cons_of_pos (by simpa using h),if_neg h];rfl
theorem jl(w:aZ)(af:Bs)(hv:∀p∈w.ai,bf p.ah=true)(hn:w.ai.length<=100000) :
 FnP cxW pv0 62 [.agg (gJ w),.d (.str af)] [] (some (.tuple [.agg ((aX (bS w.ai af).1).map .d),.d (.bool (bS w.ai af).2)],[])):=by
 refine bt [] (fun|0=>[33333]|_=>[]) tyW tq Tryz.func62 ?_;have kK:∀p∈w.ai,p.ah.aj.length<=100000/\ ∀s∈p.ah.aj,dX s.set=true:=λp hp=>by
  have ho:=bO (hv p hp);exact⟨by have:=ho.few;omega,ho.set⟩
 have step:∀b k p,w.ai[k]? =some p->lC af b k (w.ai.drop k)=lC af (mj af b k p) (k+1) (w.ai.drop (k+1)):=λb k p hp=>by rw[drop_cons hp];rfl
 conv=>whnf
 refine⟨Nat×Option (Nat×ao),λx=>⟨[(1,.d (.str af)),(2,.ptr 2 0),(4,.ptr 4 0),(6,.d (.int .i64 (match x.2 with|some (j,_)=>(j:Int)|none=> -1))),(12,.d (.slice 3 (w.ai.map aR))),(13,.d (.int .i64 ((w.ai.map aR).length:Int))),(14,.d (.int .i64 x.1))],[(2,.box (gJ w)),(4,.box [.d (.str []),.nil 5])]⟩,
  λx=>x.1<=w.ai.length/\lC af x.2 x.1 (w.ai.drop x.1)=tX w.ai af/\ ∀j q,x.2=some (j,q)->w.ai[j]? =some q/\j<x.1,λx=>w.ai.length-x.1,
  ⟨(0,none),⟨Nat.zero_le _,rfl,λj q h=>by cases h⟩,aq.keep⟩,?_⟩
 rintro⟨k,b⟩ ⟨hk,hb,hj⟩;simp only at hk hb hj;conv=>whnf
 refine ak (λh1=>?_) (λh1=>?_) <;> (rw[h1];conv=>whnf)
 .have hA:k<w.ai.length:=by simp at h1;omega
  obtain⟨p,hp⟩:∃p,w.ai[k]? =some p:=⟨_,au hA⟩
  have kG:=kK p (aC hp);rw[step b k p hp]at hb;unfold mj at hb;refine⟨aD k,aR p,aN hp,?_⟩;conv=>whnf
  have again:∀b',lC af b' (k+1) (w.ai.drop (k+1))=tX w.ai af->(∀j q,b' =some (j,q)->w.ai[j]? =some q/\j<k+1)-> ∀st,aq cxW [] st ⟨[(1,.d (.str af)),(2,.ptr 2 0),(4,.ptr 4 0),(6,.d (.int .i64 (match b' with|some (j,_)=>(j:Int)|none=> -1))),(12,.d (.slice 3 (w.ai.map aR))),(13,.d (.int .i64 ((w.ai.map aR).length:Int))),(14,.d (.int .i64 ((k+1:Nat):Int)))],[(2,.box (gJ w)),(4,.box [.d (.str []),.nil 5])]⟩ ->
   ∃y:Nat×Option (Nat×ao),(y.1<=w.ai.length/\lC af y.2 y.1 (w.ai.drop y.1)=tX w.ai af/\ ∀j q,y.2=some (j,q)->w.ai[j]? =some q/\j<y.1)/\w.ai.length-y.1<w.ai.length-k/\aq cxW [] st ⟨[(1,.d (.str af)),(2,.ptr 2 0),(4,.ptr 4 0),(6,.d (.int .i64 (match y.2 with|some (j,_)=>(j:Int)|none=> -1))),(12,.d (.slice 3 (w.ai.map aR))),(13,.d (.int .i64 ((w.ai.map aR).length:Int))),(14,.d (.int .i64 y.1))],[(2,.box (gJ w)),(4,.box [.d (.str []),.nil 5])]⟩:=λb' e1 e2 st hw=>⟨(k+1,b'),⟨hA,e1,e2⟩,by(show w.ai.length-(k+1)<w.ai.length-k;omega),hw⟩
  refine ak (λh2=>?_) (λh2=>?_) <;> (rw[h2];conv=>whnf)
  .rw[if_pos (show(p.ah.af != af)=true from h2)]at hb;exact again b hb (λj q e=>by obtain⟨e1,e2⟩:=hj j q e;exact⟨e1,by omega⟩) _ (aq.keep ⟨ae,ae,ae,ae,ae,ae,⟨ax (k:=k) (by omega),rfl⟩,trivial⟩)
  rw[if_neg (show ¬(p.ah.af != af)=true by(show ¬(!(p.ah.af==af))=true);rw[h2];simp)]at hb;cases b with
  |none =>
   conv=>whnf
   exact again (some (k,p)) hb (λj q e=>by cases e;exact⟨hp,Nat.lt_succ_self _⟩) _ (aq.keep ⟨ae,ae,ae,ae,ae,ae,⟨ax (k:=k) (by omega),rfl⟩,trivial⟩)
  |some jq =>
  obtain⟨j,q⟩:=jq;obtain⟨hq,kP⟩:=hj j q rfl;have kI:=kK q (aC hq);dsimp only at hb;conv=>whnf
  refine⟨aD j,aR q,aN hq,?_⟩;conv=>whnf
  have kU:lV [dB (cO q.ah) (cO p.ah),dB p.host q.host]=vv q p:=JH _ _;have fO:=DW [dB (cO q.ah) (cO p.ah),dB p.host q.host] (by simp);rw[kU]at fO
  (refine bV ?_;conv=>whnf)
  (refine⟨_,_,AZ q.ah kI.1 kI.2,?_⟩;conv=>whnf)
  (refine⟨_,_,AZ p.ah kG.1 kG.2,?_⟩;conv=>whnf)
  (refine⟨_,_,lL (cO q.ah) (cO p.ah),?_⟩;conv=>whnf)
  (refine⟨_,_,lL p.host q.host,?_⟩;conv=>whnf)
  (refine⟨_,fO,by kernel_rfl,?_⟩;conv=>whnf)
  refine ak (λh3=>?_) (λh3=>?_) <;> (rw[h3];conv=>whnf)
  .rw[if_pos (by simpa using h3)]at hb;exact again (some (k,p)) hb (λj q e=>by cases e;exact⟨hp,Nat.lt_succ_self _⟩) _ (aq.keep ⟨ae,ae,ae,ae,ae,ae,⟨ax (k:=k) (by omega),rfl⟩,trivial⟩)
  .rw[if_neg (by simpa using h3)]at hb;exact again (some (j,q)) hb (λj' q' e=>by cases e;exact⟨hq,by omega⟩) _ (aq.keep ⟨ae,ae,ae,ae,ae,ae,⟨ax (k:=k) (by omega),rfl⟩,trivial⟩)
 .obtain rfl:k=w.ai.length:=by simp at h1;omega
  rw[List.drop_length,lC]at hb;have kz:tX w.ai af=b:=hb.symm;cases b with
  |none =>
   have hz:bS w.ai af=(iS,false):=by rw[bS,kz]
   conv=>whnf
   exact cq rfl (by rw[hz];rfl) (by rw[hz];rfl)
  |some jq =>
   obtain⟨j,q⟩:=jq;obtain⟨hq,kP⟩:=hj j q rfl;have hz:bS w.ai af=(q.ah,true):=by rw[bS,kz]
   conv=>whnf
   refine⟨aD j,aR q,aN hq,?_⟩;conv=>whnf
   exact cq rfl (by rw[hz];rfl) (by rw[hz];rfl)
def qU(s:Bs):Bool:=bk s&&(s != [42])&& !(Go.Lib.hasPrefix s [42,46])
def BV(k:cR):Bool:=decide (1<=k.n)&&decide (k.n<=1000000)&&decide (1<=k.alg)&&decide (k.alg<=3)
def bK(w:aZ)(n:Int):Bool:=decide (0<=n)&&decide (n<(w.ay.length:Int))
def nameAt(w:aZ)(n:Int):Bs:=match w.ay[n.toNat]? with|some h=>h.name|none=>[]
def lQ(w:aZ):List Bs->List Int->Bool
 |_,[]=>true
 |seen,n::t=>bK w n&& !(seen.contains (nameAt w n))&&lQ w (seen++[nameAt w n]) t
def gR(w:aZ)(l:List Int):Bool:= !(decide ((l.length:Int)<1)||decide ((l.length:Int)>8))&&lQ w [] l
def qe(l:List Bs):List (Bs×D):=l.map λa=>(a,.bool true)
theorem qf(a:Bs):∀l:List Bs,bG a (qe l)=if l.contains a=true then some (.bool true)else none
 |[]=>rfl
 |x::l=>by
  show(if a=x then _ else bG a (qe l))=_
  by_cases h:a=x
  .subst h;simp
  .rw[if_neg h,qf a l,List.contains_cons,show(a==x)=false by simpa using h,ka]
theorem Ol{a:Bs}{l:List Bs}(h:l.contains a=false):cM a (.bool true) (qe l)=qe (l++[a]):=by
 rw[mz (by rw[qf,h];rfl)];simp[qe]
def wH(a b:Signed):Int:=if (fh a.set.name b.set.name).1=0 then dB a.set.type b.set.type else(fh a.set.name b.set.name).1
def mu(z:aL)(s:Bs)(kind:Int)(data:List Datum):Bool:=(wfR z s kind).2&&((wfR z s kind).1.data==data)
theorem nE(s a:Bs):NQ.Fn cx 134 [.str s,.str a] (.d (.bool (bJ s a).1)) []:=by
 refine aU bp mixed Tryz.func134 ?_;conv=>whnf
 (refine⟨_,_,oe s a,?_⟩;conv=>whnf)
 have hu:(bJ s a).1=true->(bJ s a).2=0:=by
  unfold bJ;split
  .intro _;rfl
  .intro h;cases h
 repeat' (first|(refine ak (λh=>?_) (λh=>?_) <;> (rw[h];conv=>whnf))|fail)
 all_goals (refine al rfl ?_;show AV.d (D.bool _)=AV.d (D.bool _);congr 2;try simp_all)
theorem TW(s:Bs):NQ.Fn cx 95 [.str s,.str [42,46]] (.d (.bool (Go.Lib.hasPrefix s [42,46]))) []:=by
 refine eZ ⟨_,Tryz.func95,by kernel_rfl,by kernel_rfl⟩ rfl λw vs _ kY kl=>?_
 obtain⟨b,hb,rfl⟩:=fY (kl 0 _ rfl);obtain⟨c,hc,kN⟩:=fY (kl 1 _ rfl);rw[xN kY,hb,hc];refine(Tryz.strings_HasPrefix _ _ _).mono ?_;rintro e w' ⟨rfl,rfl⟩;rw[kN];exact⟨_,rfl,Below.refl _ _,.fL _⟩
theorem plain_fn(s:Bs):NQ.Fn cx 75 [.str s] (.d (.bool (qU s))) []:=by
 refine aU bp mixed Tryz.func75 ?_;conv=>whnf
 repeat' (first|(refine⟨_,_,mW s,?_⟩;conv=>whnf)|(refine⟨_,_,TW s,?_⟩;conv=>whnf)|(refine ak (λh=>?_) (λh=>?_) <;> (rw[h];conv=>whnf))|fail)
 all_goals (refine al rfl ?_;show AV.d (D.bool _)=AV.d (D.bool _);congr 2;unfold qU;simp_all)
theorem Jq(k:cR):NQ.Fn cx 74 [.agg (cd k)] (.d (.bool (BV k))) []:=by
 refine aU bp mixed Tryz.func74 ?_;conv=>whnf
 repeat' (first|(refine ak (λh=>?_) (λh=>?_) <;> (rw[h];conv=>whnf))|fail)
 all_goals (refine al rfl ?_;show AV.d (D.bool _)=AV.d (D.bool _);congr 2;unfold BV;(try simp_all);(try omega))
theorem CO(w:aZ)(n:Int):NQ.Fn cx 76 [.agg (bu w),.int .i64 n] (.d (.bool (bK w n))) []:=by
 refine aU bp mixed Tryz.func76 ?_;conv=>whnf
 repeat' (first|(refine ak (λh=>?_) (λh=>?_) <;> (rw[h];conv=>whnf))|fail)
 all_goals (refine al rfl ?_;show AV.d (D.bool _)=AV.d (D.bool _);congr 2;unfold bK;(try simp_all);(try omega))
theorem FV(a b:Datum):NQ.Fn cx 125 [.agg (aQ a),.agg (aQ b)] (.d (.int .i64 (fW a b))) []:=by
 refine aU bp mixed Tryz.func125 ?_;conv=>whnf
 repeat' (first|(refine bV ?_;conv=>whnf)|(refine⟨_,_,vw _ _,?_⟩;conv=>whnf)|(refine⟨_,_,lL _ _,?_⟩;conv=>whnf)|fail)
 refine⟨_,DW [_,_,_] (by simp),rfl,?_⟩;conv=>whnf
 refine al rfl ?_;rw[JI];rfl
theorem Av(a b:Signed):NQ.Fn cx 183 [.agg (aw a),.agg (aw b)] (.d (.int .i64 (wH a b))) []:=by
 refine aU bp mixed Tryz.func183 ?_;conv=>whnf
 repeat' (first|(refine bV ?_;conv=>whnf)|(refine⟨_,_,zB _ _,?_⟩;conv=>whnf)|(refine⟨_,_,lL _ _,?_⟩;conv=>whnf)|fail)
 refine⟨_,DW [_,_] (by simp),rfl,?_⟩;conv=>whnf
 refine al rfl ?_;rw[JH];rfl
theorem MY(a b:List Datum)(ha:a.length<=200000):NQ.Fn cx 139 [.slice 3 (a.map aQ),.slice 3 (b.map aQ)] (.d (.bool (a==b))) []:=by
 refine aU bp mixed Tryz.func139 ?_;conv=>whnf
 by_cases hl:a.length=b.length
 .rw[show(((a.map aQ).length:Int) != ((b.map aQ).length:Int))=false by simp[hl]];conv=>whnf
  refine⟨Nat,λk=>⟨[(0,.d (.slice 3 (a.map aQ))),(1,.d (.slice 3 (b.map aQ))),(12,.d (.int .i64 ((a.map aQ).length:Int))),(13,.d (.int .i64 k))],[]⟩,λk=>k<=a.length/\a.take k=b.take k,λk=>a.length-k,
   ⟨0,⟨Nat.zero_le _,rfl⟩,aK.keep ⟨ae,ae,ae,ae,trivial⟩ trivial⟩,λk ⟨hk,he⟩=>?_⟩
  dsimp only at hk he ⊢;conv=>whnf
  refine ak (λh1=>?_) (λh1=>?_) <;> (rw[h1];conv=>whnf)
  .have hA:k<a.length:=by simpa using h1
   obtain⟨x,hx⟩:∃x,a[k]? =some x:=⟨_,au hA⟩
   obtain⟨y,hy⟩:∃y,b[k]? =some y:=⟨_,au (by omega)⟩
   (refine bV ?_;conv=>whnf)
   refine⟨aD k,aQ x,aN hx,?_⟩;conv=>whnf
   refine⟨aD k,aQ y,aN hy,?_⟩;conv=>whnf
   have xa:(x.text==y.text&&(x.n==y.n&&(x.m==y.m&&true)))=(x==y):=by
    rw[Bool.eq_iff_iff];simp only[aT,beq_iff_eq,and_true];constructor
    .rintro⟨h1,h2,h3⟩;cases x;cases y;simp_all
    .rintro rfl;exact⟨rfl,rfl,rfl⟩
   rw[xa];by_cases ks:x=y
   .rw[show(x==y)=true by simp[ks]];conv=>whnf
    refine⟨k+1,⟨hA,?_⟩,by(show a.length-(k+1)<a.length-k;omega),aK.keep ⟨ae,ae,ae,⟨ax (by omega),rfl⟩,trivial⟩ trivial⟩;rw[bP hx,bP hy,he,ks]
   .rw[show(x==y)=false by simp[ks]];conv=>whnf
    refine al rfl ?_;have:(a==b)=false:=by
     rw[beq_eq_false_iff_ne];intro e;rw[e,hy]at hx;exact ks (by cases hx;rfl)
    rw[this];rfl
  .obtain rfl:k=a.length:=by simp at h1;omega
   refine al rfl ?_;rw[List.take_length,hl,List.take_length]at he;rw[he,beq_self_eq_true];rfl
 .rw[show(((a.map aQ).length:Int) != ((b.map aQ).length:Int))=true by simp;omega];conv=>whnf
  refine al rfl ?_;have:(a==b)=false:=by
   rw[beq_eq_false_iff_ne];rintro rfl;exact hl rfl
  rw[this];rfl
theorem rI(z:aL)(s:Bs)(kind:Int)(data:List Datum)(hn:z.aj.length<=100000)(hd:(wfR z s kind).1.data.length<=200000):NQ.Fn cx 138 [.agg (aX z),.str s,.int .i64 kind,.slice 3 (data.map aQ)] (.d (.bool (mu z s kind data))) []:=by
 refine aU bp mixed Tryz.func138 ?_;conv=>whnf
 (refine⟨_,_,nk z s kind hn,?_⟩;conv=>whnf)
 refine ak (λh1=>?_) (λh1=>?_) <;> (rw[h1];conv=>whnf)
 . (refine⟨_,_,MY _ data hd,?_⟩;conv=>whnf)
   exact al rfl (by unfold mu;rw[h1];rfl)
 .exact al rfl (by unfold mu;rw[h1];rfl)
theorem wc(w:aZ)(l:List Int):NQ.Fn cx 69 [.agg (bu w),.slice 1 (l.map dm)] (.d (.bool (gR w l))) []:=by
 refine aU bp mixed Tryz.func69 ?_;conv=>whnf
 refine ak (λh0=>?_) (λh0=>?_) <;> (rw[h0];conv=>whnf)
 .exact al rfl (by unfold gR;simp only[aA]at h0;rw[h0];rfl)
 refine ak (λhU=>?_) (λhU=>?_) <;> (rw[hU];conv=>whnf)
 .exact al rfl (by unfold gR;simp only[aA]at h0 hU;rw[h0,hU];rfl)
 have hR:gR w l=lQ w [] l:=by unfold gR;simp only[aA]at h0 hU;rw[h0,hU];rfl
 rw[hR];have hlen:l.length<=8:=by simp only[aA]at hU;have:=of_decide_eq_false hU;omega
 refine⟨Nat,λk=>⟨[(2,.ptr 2 0),(5,.omap 16),(17,.d (.slice 1 (l.map dm))),(18,.d (.int .i64 ((l.map dm).length:Int))),(19,.d (.int .i64 k))],[(2,.box ((bu w).map .d)),(16,.smap (qe ((l.take k).map (nameAt w))))]⟩,
  λk=>k<=l.length/\lQ w ((l.take k).map (nameAt w)) (l.drop k)=lQ w [] l,λk=>l.length-k,⟨0,⟨Nat.zero_le _,rfl⟩,aK.keep⟩,λk ⟨hk,hg⟩=>?_⟩
 dsimp only at hk hg ⊢;conv=>whnf
 refine ak (λh1=>?_) (λh1=>?_) <;> (rw[h1];conv=>whnf)
 .have hA:k<l.length:=by simpa using h1
  obtain⟨n,hn⟩:∃x,l[k]? =some x:=⟨_,au hA⟩
  rw[drop_cons hn,lQ]at hg;refine⟨aD k,dm n,aN hn,?_⟩;conv=>whnf
  (refine⟨_,_,CO w n,?_⟩;conv=>whnf)
  refine ak (λh2=>?_) (λh2=>?_) <;> (rw[h2];conv=>whnf)
  .exact al rfl (by rw[<- hg];simp at h2;rw[h2];rfl)
  .have hh:bK w n=true:=by simpa using h2
   have kq :=hh;unfold bK at kq;simp only[aT,decide_eq_true_eq]at kq;obtain⟨h,hw⟩:∃h,w.ay[n.toNat]? =some h:=⟨_,au (by omega)⟩
   have kr:nameAt w n=h.name:=by unfold nameAt;rw[hw]
   rw[kr]at hg;refine⟨kq.1,fJ h,aN hw,?_⟩;conv=>whnf
   cases hc:((l.take k).map (nameAt w)).contains h.name with
   |true =>
    rw[show bG h.name (qe ((l.take k).map (nameAt w)))=some (.bool true) by rw[qf,hc];rfl];conv=>whnf
    exact al rfl (by rw[<- hg,hc,sf,mf,xc];rfl)
   |false =>
    rw[show bG h.name (qe ((l.take k).map (nameAt w)))=none by rw[qf,hc];rfl];conv=>whnf
    refine⟨kq.1,fJ h,aN hw,?_⟩;conv=>whnf
    refine⟨k+1,⟨hA,?_⟩,by(show l.length-(k+1)<l.length-k;omega),aK.keep ⟨ae,ae,ae,ae,⟨ax (by omega),rfl⟩,trivial⟩ ⟨ae,⟨?_,rfl⟩,trivial⟩⟩
    .rw[<- hg,hh,hc,bP hn,List.map_append];simp[kr]
    .show some (Blk.smap (cM h.name (.bool true) (qe ((l.take k).map (nameAt w)))))=_
     rw[Ol hc,bP hn,List.map_append];simp[kr]
 .obtain rfl:k=l.length:=by simp at h1;omega
  exact al rfl (by rw[<- hg,List.drop_length];rfl)
def fc(host:Int)(af:Bs)(p:ao):Bool:=decide (p.host=host)&&(p.ah.af==af)
def jh(af:Bs)(x:Bs×Bool)(p:ao):Bs×Bool:=if ((p.ah.af != af)&&(bJ af p.ah.af).1&&(!x.2||(bJ p.ah.af x.1).1))=true then(p.ah.af,true)else x
def dQ(af:Bs)(zs:List ao):Bs×Bool:=zs.foldl (jh af) ([],false)
def cH(zs:List ao)(af:Bs):aL×Bool:=if (dQ af zs).2=true then(if (wfR (bS zs (dQ af zs).1).1 af 2).2=true then((bS zs (dQ af zs).1).1,true)else(iS,false))else(iS,false)
def RQ:List D->Datum
 |[.str t,.int _ n,.int _ m]=>⟨t,n,m⟩
 |_=>⟨[],0,0⟩
def US(x y:List D):Int:=fW (RQ x) (RQ y)
theorem jF(a b:Datum):fW a b=lex Go.Lib.compareBytes (lex dB dB) (a.text,a.n,a.m) (b.text,b.n,b.m):=rfl
theorem xX:jD fW:=by
 have h:=BY dv (BY tV tV);refine⟨λa b=>?_,λa b=>?_,λa b=>?_,λa b c=>?_⟩
 .rw[jF];exact h.range _ _
 .rw[jF,h.zero];cases a;cases b;simp
 .rw[jF,jF];exact h.lK _ _
 .rw[jF,jF,jF];exact h.lt _ _ _
theorem jD.ok{α:Type}{c:α->α->Int}(h:jD c)(l:List α):lA c l:=by
 refine⟨λx _=>?_,λx _ y _ z _ h1 h2=>?_,λx _ y _ z _ h1 h2=>?_⟩
 .rw[(h.zero x x).2 rfl];omega
 .have:=h.Va h1 (Int.le_of_lt h2);exact this
 .have a1:=h.lK x y;have a2:=h.lK y z;have a3:=h.lK x z;have:=h.le_trans (a:=z) (b:=y) (c:=x) (by omega) (by omega);omega
theorem zU(l:List Datum):lA fW l:=xX.ok l
def nD(w:aZ)(n:Int):Datum:=⟨nameAt w n,0,0⟩
def di(w:aZ)(l:List Int):List Datum:=gS fW (l.map (nD w))
theorem zN(a:Bs):∀(zs:List ao) (b:Option (Nat×ao)) (i:Nat),(∀j q,b=some (j,q)->q.ah.af=a) ->
 (∀j q,lC a b i zs=some (j,q)->q.ah.af=a/\(b=some (j,q)\/q∈zs))/\(lC a b i zs=none->b=none/\ ∀p∈zs,p.ah.af≠a)
 |[],b,i,hb=>⟨λj q h=>⟨hb j q h,.inl h⟩,λh=>⟨h,λp hp=>by cases hp⟩⟩
 |x::t,b,i,hb=>by
  have hs:∀j q,mj a b i x=some (j,q)->q.ah.af=a/\(b=some (j,q)\/q=x):=λj q h=>by
   unfold mj at h;split at h
   .exact⟨hb j q h,.inl h⟩
   .rename_i kj;have hx:x.ah.af=a:=by simpa using kj
    split at h
    .cases h;exact⟨hx,.inr rfl⟩
    .rename_i j' q';split at h
     .cases h;exact⟨hx,.inr rfl⟩
     .cases h;exact⟨hb _ _ rfl,.inl rfl⟩
  obtain⟨xb,xd⟩:=zN a t (mj a b i x) (i+1) λj q h=>(hs j q h).1
  refine⟨λj q h=>?_,λh=>?_⟩
  .obtain⟨h1,h2⟩:=xb j q h;refine⟨h1,?_⟩;rcases h2 with h2|h2
   .rcases (hs j q h2).2 with h3|rfl
    .exact .inl h3
    .exact .inr (List.mem_cons_self ..)
   .exact .inr (bC _ h2)
  .obtain⟨h1,h2⟩:=xd h;unfold mj at h1;split at h1
   .rename_i kj;exact⟨h1,λp hp=>by
     rcases List.mem_cons.1 hp with rfl|hp
     .simpa using kj
     .exact h2 p hp⟩
   .split at h1
    .cases h1
    .split at h1 <;> cases h1
theorem eX(zs:List ao)(a:Bs):(∃p∈zs,bS zs a=(p.ah,true)/\p.ah.af=a)\/(bS zs a=(iS,false)/\ ∀p∈zs,p.ah.af≠a):=by
 obtain⟨h1,h2⟩:=zN a zs none 0 λj q h=>by cases h
 unfold bS tX;cases h:lC a none 0 zs with
 |none=>exact .inr ⟨rfl,(h2 h).2⟩
 |some jq =>
  obtain⟨j,q⟩:=jq;obtain⟨g1,g2⟩:=h1 j q h;rcases g2 with g2|g2
  .cases g2
  .exact .inl ⟨q,g2,rfl,g1⟩
theorem CD{zs:List ao}(hv:∀p∈zs,bf p.ah=true)(a:Bs):(bS zs a).1.aj.length<=100000:=by
 rcases eX zs a with ⟨p,hp,h,_⟩|⟨h,_⟩
 .rw[h];have:=(bO (hv p hp)).few;(show p.ah.aj.length<=100000);omega
 .rw[h];exact Nat.zero_le _
theorem bR{cx cx' :Cx}(h1:cx'.P=cx.P)(h2:cx'.gl=cx.gl){pv:Int->Value}{f:FuncId}{args:List AV}{h:List (Nat×Blk)}{out:Option (AV×List (Nat×Blk))}(hf:FnP cx pv f args h out):FnP cx' pv f args h out:=by
 unfold FnP gq jC at *
 rw[h1,h2];exact hf
noncomputable def cxO:Cx:={cx with chg:=gX [(62,10),(124,2)]}
theorem tyO:bD cxO:=bp
theorem Ay:cxO.P.follows .mixedOrders=true:=mixed
theorem rq(w:aZ)(af:Bs)(hv:∀p∈w.ai,bf p.ah=true)(hn:w.ai.length<=100000) :
 FnP cxO pv0 112 [.agg (gJ w),.d (.str af)] [] (some (.tuple [.agg ((aX (cH w.ai af).1).map .d),.d (.bool (cH w.ai af).2)],[])):=by
 refine bt [] (fun|0=>[33333]|11=>[33333]|_=>[]) tyO Ay Tryz.func112 ?_;conv=>whnf
 refine⟨Nat×Bs×Bool,λx=>⟨[(1,.d (.str af)),(2,.ptr 2 0),(4,.ptr 4 0),(6,.d (.str x.2.1)),(7,.d (.bool x.2.2)),(17,.d (.slice 3 (w.ai.map aR))),(18,.d (.int .i64 ((w.ai.map aR).length:Int))),(19,.d (.int .i64 x.1))],[(2,.box (gJ w)),(4,.box [.d (.str []),.nil 5])]⟩,
  λx=>x.1<=w.ai.length/\x.2=dQ af (w.ai.take x.1),λx=>w.ai.length-x.1,⟨(0,[],false),⟨Nat.zero_le _,rfl⟩,aq.keep⟩,?_⟩
 rintro⟨k,l,b⟩ ⟨hk,hx⟩;dsimp only at hk hx;conv=>whnf
 refine ak (λh1=>?_) (λh1=>?_) <;> (rw[h1];conv=>whnf)
 .have hA:k<w.ai.length:=by simpa using h1
  obtain⟨p,hp⟩:∃x,w.ai[k]? =some x:=⟨_,au hA⟩
  have hS:dQ af (w.ai.take (k+1))=jh af (l,b) p:=by
   rw[bP hp,hx];unfold dQ;rw[List.foldl_append];rfl
  have yes:((p.ah.af != af)&&(bJ af p.ah.af).1&&(!b||(bJ p.ah.af l).1))=true->(p.ah.af,true)=dQ af (w.ai.take (k+1)):=λh=>by rw[hS,jh,if_pos h]
  have no:((p.ah.af != af)&&(bJ af p.ah.af).1&&(!b||(bJ p.ah.af l).1))=false->(l,b)=dQ af (w.ai.take (k+1)):=λh=>by rw[hS,jh,if_neg (by rw[h];decide)]
  refine⟨aD k,aR p,aN hp,?_⟩;conv=>whnf
  have hY:(p.ah.af != af)= !(p.ah.af==af):=rfl
  repeat' (first|(refine⟨_,_,nE af p.ah.af,?_⟩;conv=>whnf)|(refine⟨_,_,nE p.ah.af l,?_⟩;conv=>whnf)|(refine ak (λh=>?_) (λh=>?_) <;> (rw[h];conv=>whnf))|fail)
  all_goals first
   |(refine⟨(k+1,p.ah.af,true),⟨hA,yes (by simp only[hY, *, if_true,if_false,aY])⟩,by(show w.ai.length-(k+1)<w.ai.length-k;omega),aq.keep ⟨ae,ae,ae,ae,ae,ae,ae,⟨ax (k:=k) (by omega),rfl⟩,trivial⟩⟩;done)
   |(refine⟨(k+1,l,b),⟨hA,no (by simp only[hY, *, if_true,if_false,aY])⟩,by(show w.ai.length-(k+1)<w.ai.length-k;omega),aq.keep ⟨ae,ae,ae,ae,ae,ae,ae,⟨ax (k:=k) (by omega),rfl⟩,trivial⟩⟩;done)
   |(subst_vars;refine⟨(k+1,l,true),⟨hA,no (by simp only[hY, *, if_true,if_false,aY])⟩,by(show w.ai.length-(k+1)<w.ai.length-k;omega),aq.keep ⟨ae,ae,ae,ae,ae,ae,ae,⟨ax (k:=k) (by omega),rfl⟩,trivial⟩⟩;done)
 .obtain rfl:k=w.ai.length:=by simp at h1;omega
  rw[List.take_length]at hx;have hz:cH w.ai af=if b=true then(if (wfR (bS w.ai l).1 af 2).2=true then((bS w.ai l).1,true)else(iS,false))else(iS,false):=by unfold cH;rw[<- hx]
  rw[hz];refine ak (λh2=>?_) (λh2=>?_) <;> (rw[h2];conv=>whnf)
  .have hb:b=false:=by simpa using h2
   subst hb;exact cq rfl rfl rfl
  have hb:b=true:=by simpa using h2
  subst hb;have hC:=bR (cx' :=cxO) rfl rfl (jl w l hv hn);refine⟨[2,4],_,hC,⟨rfl,rfl,rfl⟩,?_⟩;conv=>whnf
  refine aM ?_;conv=>whnf
  (refine⟨_,_,nk (bS w.ai l).1 af 2 (CD hv l),?_⟩;conv=>whnf)
  refine ak (λh3=>?_) (λh3=>?_) <;> (rw[h3];conv=>whnf)
  .have h4:(wfR (bS w.ai l).1 af 2).2=false:=by simpa using h3
   rw[h4];exact cq rfl rfl rfl
  .have h4:(wfR (bS w.ai l).1 af 2).2=true:=by simpa using h3
   rw[h4];exact cq rfl rfl rfl
theorem HD(p:ao)(host:Int)(af:Bs):NQ.Fn cx 180 [.agg (aR p),.ptr [.int .i64 host],.ptr [.str af]] (.d (.bool (fc host af p))) []:=by
 refine aU bp mixed Tryz.func180 ?_;conv=>whnf
 repeat' (first|(refine ak (λh=>?_) (λh=>?_) <;> (rw[h];conv=>whnf))|fail)
 all_goals (refine al rfl ?_;show AV.d (D.bool _)=AV.d (D.bool _);congr 2;unfold fc;(try simp_all))
theorem Qj(l:List ao)(p:ao->Bool)(x y:D)(hn:l.length<=100000)(hf:∀s∈l,NQ.Fn cx 180 [.agg (aR s),x,y] (.d (.bool (p s))) []) :
 NQ.Fn cx 222 [.slice 3 (l.map aR),.fn 180 [] [x,y]] (.d (.int .i64 (match l.findIdx? p with|some k=>(k:Int)|none=> -1))) []:=by
 refine aU bp mixed Tryz.func222 ?_;conv=>whnf
 refine⟨Nat,λk=>⟨[(0,.d (.slice 3 (l.map aR))),(1,.d (.fn 180 [] [x,y])),(7,.d (.int .i64 ((l.map aR).length:Int))),(8,.d (.int .i64 k))],[]⟩,λk=>k<=l.length/\ ∀j y,j<k->l[j]? =some y->p y=false,λk=>l.length-k,
  ⟨0,⟨by omega,λj y h=>by omega⟩,aK.keep ⟨ae,ae,ae,ae,trivial⟩ trivial⟩,λk hk=>?_⟩
 obtain⟨hk,hD⟩:=hk;conv=>whnf
 refine ak (λh1=>?_) (λh1=>?_) <;> (rw[h1];conv=>whnf)
 .have hA:k<l.length:=by simp at h1;omega
  obtain⟨s,hs⟩:∃s,l[k]? =some s:=⟨_,au hA⟩
  refine⟨aD k,aR s,aN hs,?_⟩;conv=>whnf
  (refine⟨_,_,hf s (aC hs),?_⟩;conv=>whnf)
  refine ak (λh2=>?_) (λh2=>?_) <;> (rw[h2];conv=>whnf)
  .refine al rfl ?_;have:l.findIdx? p=some k:=by
    rw[List.findIdx?_eq_some_iff_getElem];obtain⟨g1,g2⟩:=aB.1 hs;refine⟨g1,by rw[g2];exact h2,λj hj=>?_⟩;have:=hD j (l[j]) hj (au (by omega));rw[this];decide
   rw[this];rfl
  .refine⟨k+1,⟨hA,λj y hj hy=>?_⟩,by(show l.length-(k+1)<l.length-k;omega),aK.keep ⟨ae,ae,ae,⟨ax (by omega),rfl⟩,trivial⟩ trivial⟩;rcases Nat.lt_succ_iff_lt_or_eq.1 hj with hj|rfl
   .exact hD j y hj hy
   .rw[hs]at hy;cases hy;exact h2
 .obtain rfl:k=l.length:=by simp at h1;omega
  refine al rfl ?_;have:l.findIdx? p=none:=by
   rw[List.findIdx?_eq_none_iff];intro x hx;obtain⟨i,hi⟩:=cN hx;exact hD i x (aB.1 hi).1 hi
  rw[this];rfl
theorem ye{α:Type}(p:α->Bool)(l:List α):decide ((match l.findIdx? p with|some k=>(k:Int)|none=> -1)>=0)=l.any p:=by
 cases h:l.findIdx? p with
 |some k =>
  obtain⟨h1,h2,_⟩:=List.findIdx?_eq_some_iff_getElem.1 h;have:l.any p=true:=List.any_eq_true.2 ⟨_,List.getElem_mem h1,h2⟩;rw[this,decide_eq_true];exact aD k
 |none =>
  have:l.any p=false:=by
   rw[<- Bool.not_eq_true,List.any_eq_true];rintro⟨x,hx,hp⟩;have:=List.findIdx?_eq_none_iff.1 h x hx;rw[this]at hp;cases hp
  rw[this];rfl
theorem Ph(l:List ao)(p:ao->Bool)(x y:D)(hn:l.length<=100000)(hf:∀s∈l,NQ.Fn cx 180 [.agg (aR s),x,y] (.d (.bool (p s))) []) :
 NQ.Fn cx 179 [.slice 3 (l.map aR),.fn 180 [] [x,y]] (.d (.bool (l.any p))) []:=by
 refine aU bp mixed Tryz.func179 ?_;conv=>whnf
 (refine⟨_,_,Qj l p x y hn hf,?_⟩;conv=>whnf)
 refine al rfl ?_;show AV.d (D.bool (decide ((match l.findIdx? p with|some k=>(k:Int)|none=> -1)>=0)))=_
 rw[ye]
theorem lh(w:aZ)(host:Int)(af:Bs)(hn:w.ai.length<=100000) :
 FnP cxO pv0 113 [.agg (gJ w),.d (.int .i64 host),.d (.str af)] [] (some (.d (.bool (w.ai.any (fc host af))),[])):=by
 refine bt [] (fun|0=>[33333]|_=>[]) tyO Ay Tryz.func113 ?_;conv=>whnf
 (refine⟨_,Ph w.ai (fc host af) _ _ hn (λp _=>HD p host af),rfl,?_⟩;conv=>whnf)
 exact cq rfl rfl rfl trivial
theorem Dg(l:List Datum)(hl:l.length<=100000)(fl:Bool):FnR cx 124 false 70 3 (l.map aQ) fl [.fn 125 [] []] ((gS fW l).map aQ):=by
 rw[<- Dh aQ fW US l λx _ y _=>rfl];exact GA (cx:=cx) (ρ:=Tryz.yx) Tryz.Tz (k:=3) Tryz.isAgg70 Tryz.sizeOf70 ⟨_,Tryz.func124,by kernel_rfl,rfl⟩
  (λx hx y hy=>by
   obtain⟨a,ha,rfl⟩:=List.mem_map.1 hx;obtain⟨b,hb,rfl⟩:=List.mem_map.1 hy;exact FV a b) (enters_of Tryz.func125 (by kernel_rfl) rfl) ((zU l).map λx _ y _=>rfl) (by rw[aA];omega)
theorem sF(w:aZ)(l:List Int)(hl:l.length<=1000)(hh:∀n∈l,bK w n=true) :
 FnP cxO pv0 117 [.agg (gJ w),.d (.slice 1 (l.map dm))] [] (some (.d (.slice 3 ((di w l).map aQ)),[])):=by
 refine bt [] (fun|0=>[33333]|_=>[]) tyO Ay Tryz.func117 ?_;conv=>whnf
 refine⟨Nat,λk=>⟨[(2,.ptr 2 0),(5,.own 55),(8,.d (.slice 1 (l.map dm))),(9,.d (.int .i64 ((l.map dm).length:Int))),(10,.d (.int .i64 k))],[(2,.box (gJ w)),(55,.row 70 3 (((l.take k).map (nD w)).map aQ))]⟩,λk=>k<=l.length,λk=>l.length-k,
  ⟨0,Nat.zero_le _,(aq.jV 5 55 3 70 3 rfl rfl (by decide)).trans (aq.keep)⟩,λk hk=>?_⟩
 conv=>whnf
 refine ak (λh1=>?_) (λh1=>?_) <;> (rw[h1];conv=>whnf)
 .have hA:k<l.length:=by simp at h1;omega
  obtain⟨n,hn⟩:∃s,l[k]? =some s:=⟨_,au hA⟩
  have hw:=hh n (aC hn);unfold bK at hw;simp only[aT,decide_eq_true_eq]at hw;obtain⟨h,kD⟩:∃h,w.ay[n.toNat]? =some h:=⟨_,au (by omega)⟩
  refine⟨aD k,dm n,aN hn,?_⟩;conv=>whnf
  refine⟨hw.1,fJ h,aN kD,?_⟩;conv=>whnf
  have hS:((l.take (k+1)).map (nD w)).map aQ=((l.take k).map (nD w)).map aQ++[[.str h.name,.int .i64 0,.int .i64 0]]:=by
   rw[bP hn,List.map_append,List.map_append]
   congr 1
   show[aQ (nD w n)]=_
   unfold nD nameAt;rw[kD];rfl
  refine⟨by simp;omega,by simp;omega,?_⟩;conv=>whnf
  refine⟨k+1,hA,by(show l.length-(k+1)<l.length-k;omega),aq.keep ⟨ae,ae,ae,ae,⟨ax (k:=k) (by omega),rfl⟩,trivial⟩ ⟨ae,⟨congrArg (λr=>some (Blk.row 70 3 r)) hS.symm,rfl⟩,trivial⟩⟩
 .obtain rfl:k=l.length:=by simp at h1;omega
  rw[List.take_length];have kJ:=λfl=>Dg (l.map (nD w)) (by simp;omega) fl
  rw[show gS fW (l.map (nD w))=di w l from rfl]at kJ;refine⟨_,kJ _,?_⟩;generalize di w l=sv;conv=>whnf
  exact Gr [55] rfl rfl rfl
structure bA where
 kind:Int
 ah:Bs
 name:Bs
 ay:List Int
 key:cR
 deriving DecidableEq
def bj(x:bA):List D:=[.int .i64 x.kind,.str x.ah,.str x.name,.slice 1 (x.ay.map dm),.int .i64 x.key.n,.int .i64 x.key.alg]
def rb(w:aZ)(z:aL)(s:Bs):Bool:= !(!qU s||(s==z.af)|| !(bJ s z.af).1)&&(!(bS w.ai s).2&&(((pA z s).2.2==0)&& !(pA z s).2.1))
def nT(k:cR):Bool:=(k.n==0)&&((k.alg==0)&&true)
def qQ(w:aZ)(l:List Int):Bool:=match l with|[n]=>bK w n|_=>false
theorem AH{w:aZ}{l:List Int}(h:l.length≠1):qQ w l=false:=by
 match l,h with
 |[],_=>rfl
 |[n],h=>exact absurd rfl h
 |_::_::_,_=>rfl
def kB(w:aZ)(x:bA):Bool :=
 if x.kind=1 then(x.name==[])&&nT x.key&&gR w x.ay
 else if x.kind=2 then(x.name==[])&&decide ((x.ay.length:Int)=0)&&BV x.key
 else if x.kind=3 then qU x.name&&nT x.key&&qQ w x.ay
 else if x.kind=4 then rb w (bS w.ai x.ah).1 x.name&&gR w x.ay&&BV x.key
 else false
def fQ(w:aZ)(x:bA):Bool:= !(!fm w||(x.ah==[46]))&&((bS w.ai x.ah).2&&kB w x)
noncomputable def cxV:Cx:={cx with chg:=gX [(62,10),(77,10)]}
theorem tyV:bD cxV:=bp
theorem Up:cxV.P.follows .mixedOrders=true:=mixed
theorem Iy(w:aZ)(z:aL)(s:Bs)(hv:∀p∈w.ai,bf p.ah=true)(hn:w.ai.length<=100000) :
 FnP cxO pv0 77 [.agg (gJ w),.agg ((aX z).map .d),.d (.str s)] [] (some (.d (.bool (rb w z s)),[])):=by
 refine bt [] (fun|0=>[33333]|3=>[33333]|_=>[]) tyO Ay Tryz.func77 ?_;conv=>whnf
 (refine⟨_,_,plain_fn s,?_⟩;conv=>whnf)
 have hG:(!qU s||(s==z.af)|| !(bJ s z.af).1)=true->rb w z s=false:=λh=>by unfold rb;rw[h];rfl
 repeat' (first|(refine⟨_,_,nE s z.af,?_⟩;conv=>whnf)|(refine ak (λh=>?_) (λh=>?_) <;> (rw[h];conv=>whnf))|fail)
 all_goals first
  |exact cq rfl (by rw[hG (by simp only[*, if_true,if_false,aY])];rfl) rfl trivial
  |skip
 have hN:(!qU s||(s==z.af)|| !(bJ s z.af).1)=false:=by simp only[*, if_true,if_false,aY]
 have hW:rb w z s=(!(bS w.ai s).2&&(((pA z s).2.2==0)&& !(pA z s).2.1)):=by unfold rb;rw[hN];rfl
 rw[hW];have hC:=bR (cx' :=cxO) rfl rfl (jl w s hv hn);refine⟨[3,4],_,hC,⟨rfl,rfl,rfl⟩,?_⟩;conv=>whnf
 refine aM ?_;conv=>whnf
 refine ak (λh3=>?_) (λh3=>?_) <;> (rw[h3];conv=>whnf)
 .exact cq rfl rfl rfl trivial
 . (refine⟨_,_,TT z s,?_⟩;conv=>whnf)
   repeat' (first|(refine ak (λh=>?_) (λh=>?_) <;> (rw[h];conv=>whnf))|fail)
   all_goals exact cq rfl (by(try simp only[*, if_true,if_false,aY]);rfl) rfl trivial
theorem pL(w:aZ)(x:bA)(hF:vf w) :
 FnP cxV pv0 32 [.agg ((bu w).map .d),.agg ((bj x).map .d)] [] (some (.d (.bool (fQ w x)),[])):=by
 refine bt [] (fun|4=>[33333]|16=>[33333]|_=>[]) tyV Up Tryz.func32 ?_;conv=>whnf
 have hn:w.ai.length<=100000:=by have:=hF.ai;omega
 (refine⟨_,_,wS w hF,?_⟩;conv=>whnf)
 have hG:(!fm w||(x.ah==[46]))=true->fQ w x=false:=λh=>by unfold fQ;rw[h];rfl
 repeat' (first|(refine ak (λh=>?_) (λh=>?_) <;> (rw[h];conv=>whnf))|fail)
 all_goals first
  |exact cq rfl (by rw[hG (by simp only[*, if_true,if_false,aY])];rfl) rfl trivial
  |skip
 have hN:(!fm w||(x.ah==[46]))=false:=by simp only[*, if_true,if_false,aY]
 have kZ:fm w=true:=by cases h:fm w <;> simp_all
 have hv:=λp hp=>(gN kZ p hp).1
 have hW:fQ w x=((bS w.ai x.ah).2&&kB w x):=by unfold fQ;rw[hN];rfl
 rw[hW];have hC:=bR (cx' :=cxV) rfl rfl (jl w x.ah hv hn);refine⟨[2,3,5],_,hC,⟨rfl,rfl,rfl⟩,?_⟩;conv=>whnf
 refine aM ?_;conv=>whnf
 refine ak (λh3=>?_) (λh3=>?_) <;> (rw[h3];conv=>whnf)
 .have h4:(bS w.ai x.ah).2=false:=by simpa using h3
  exact cq rfl (by rw[h4];rfl) rfl trivial
 have h4:(bS w.ai x.ah).2=true:=by simpa using h3
 rw[h4,ic];by_cases k1:x.kind=1
 .have hk:kB w x=((x.name==[])&&nT x.key&&gR w x.ay):=by unfold kB;rw[if_pos k1]
  rw[hk,show(x.kind==1)=true by simp[k1]];conv=>whnf
  repeat' (first|(refine⟨_,_,wc w x.ay,?_⟩;conv=>whnf)|(refine ak (λh=>?_) (λh=>?_) <;> (rw[h];conv=>whnf))|fail)
  all_goals exact cq rfl (by clear hW hC hG hv hN;refine congrArg (λb=>AV.d (D.bool b)) ?_;(try unfold nT);(try simp_all)) rfl trivial
 rw[show(x.kind==1)=false by simp[k1]];conv=>whnf
 by_cases k2:x.kind=2
 .have hk:kB w x=((x.name==[])&&decide ((x.ay.length:Int)=0)&&BV x.key):=by unfold kB;rw[if_neg k1,if_pos k2]
  rw[hk,show(x.kind==2)=true by simp[k2]];conv=>whnf
  repeat' (first|(refine⟨_,_,Jq x.key,?_⟩;conv=>whnf)|(refine ak (λh=>?_) (λh=>?_) <;> (rw[h];conv=>whnf))|fail)
  all_goals exact cq rfl (by clear hW hC hG hv hN;refine congrArg (λb=>AV.d (D.bool b)) ?_;(try unfold nT);(try simp_all)) rfl trivial
 rw[show(x.kind==2)=false by simp[k2]];conv=>whnf
 by_cases k3:x.kind=3
 .have hk:kB w x=(qU x.name&&nT x.key&&qQ w x.ay):=by unfold kB;rw[if_neg k1,if_neg k2,if_pos k3]
  rw[hk,show(x.kind==3)=true by simp[k3]];conv=>whnf
  (refine bV ?_;conv=>whnf)
  repeat' (first|(refine⟨_,_,plain_fn x.name,?_⟩;conv=>whnf)|(refine ak (λh=>?_) (λh=>?_) <;> (rw[h];conv=>whnf))|fail)
  all_goals first
   |exact cq rfl (by clear hW hC hG hv hN;refine congrArg (λb=>AV.d (D.bool b)) ?_;(try unfold nT);(try simp_all);(first|done|rfl|exact AH (by omega))) rfl trivial
   |skip
  obtain⟨n,kS⟩:∃n,x.ay=[n]:=by
   have h6:x.ay.length=1:=by
    simp only[aA,beq_iff_eq]at *;omega
   match x.ay,h6 with
   |[n],_=>exact⟨n,rfl⟩
  refine⟨Int.le_refl 0,dm n,by rw[kS];rfl,?_⟩;conv=>whnf
  (refine⟨_,_,CO w n,?_⟩;conv=>whnf)
  exact cq rfl (by clear hW hC hG hv hN;refine congrArg (λb=>AV.d (D.bool b)) ?_;(try unfold nT);(try simp_all);(first|done|rfl|exact AH (by omega))) rfl trivial
 rw[show(x.kind==3)=false by simp[k3]];conv=>whnf
 by_cases k4:x.kind=4
 .have hk:kB w x=(rb w (bS w.ai x.ah).1 x.name&&gR w x.ay&&BV x.key):=by unfold kB;rw[if_neg k1,if_neg k2,if_neg k3,if_pos k4]
  rw[hk,show(x.kind==4)=true by simp[k4]];conv=>whnf
  have hS:=bR (cx' :=cxV) rfl rfl (Iy w (bS w.ai x.ah).1 x.name hv hn);refine⟨[2,3,5,6],_,hS,⟨rfl,rfl,rfl⟩,?_⟩;conv=>whnf
  refine aM ?_;conv=>whnf
  repeat' (first|(refine⟨_,_,Jq x.key,?_⟩;conv=>whnf)|(refine⟨_,_,wc w x.ay,?_⟩;conv=>whnf)|(refine ak (λh=>?_) (λh=>?_) <;> (rw[h];conv=>whnf))|fail)
  all_goals exact cq rfl (by clear hW hC hG hv hN;refine congrArg (λb=>AV.d (D.bool b)) ?_;(try unfold nT);(try simp_all)) rfl trivial
 rw[show(x.kind==4)=false by simp[k4]];conv=>whnf
 have hk:kB w x=false:=by unfold kB;rw[if_neg k1,if_neg k2,if_neg k3,if_neg k4]
 exact cq rfl (by rw[hk];rfl) rfl trivial
def qz(s:cG)(g:Sig)(k:cR):Bool:=((lF s g.ah k g.since g.aO).2==0)&&decide ((lF s g.ah k g.since g.aO).1=g)
def eqK(a b:cR):Bool:=decide (a=b)
def Ea(ah:Bs)(at_ hE:Int)(g:Sig):Bool:= !((!(g.ah==ah))||decide (g.since>IntKind.i64.wrap (at_-hE))||decide (g.aO<IntKind.i64.wrap (at_+hE)))
def zn(s:cG)(ah:Bs)(keys:List cR)(at_ hE:Int)(g:Sig):Bool:=Ea ah at_ hE g&&(keys.find? (qz s g)).isSome
def gM(a d:Int):Bool:=decide (a>=0)&&(decide (a<=10000000)&&(decide (d>=0)&&decide (d<=1000)))
def xI(s:Signed)(ah:Bs)(keys:List cR)(at_ hE:Int):Bool:=gM at_ hE&&(s.sigs.find? (zn s.set ah keys at_ hE)).isSome
def qk(a b:cG):List cR:=(cK b).filter λk=>((cK a).find? λt=>eqK t k).isSome
def mM(a:cG)(s:Signed)(at_ hE:Int):Bool:=(dX a&&(a.type==6))&&((dX s.set&&((s.set.type==7)&&(s.set.name==a.name)))&&xI s a.name (qk a s.set) at_ hE)
def BC:cR:=⟨0,0⟩
def nJ{α:Type}(z:α)(p:α->Bool)(l:List α):α:=(l.find? p).getD z
theorem Vf(a b:cR):(a.n==b.n&&(a.alg==b.alg&&true))=eqK a b:=by
 obtain⟨an,ag⟩:=a;obtain⟨bn,bg⟩:=b;unfold eqK;rw[iH];by_cases h1:an=bn <;> by_cases h2:ag=bg <;> simp[h1,h2]
theorem Vg(a b:Sig):(a.ah==b.ah&&(a.key==b.key&&(a.alg==b.alg&&(a.since==b.since&&(a.aO==b.aO&&(a.sum==b.sum&&true))))))=decide (a=b):=by
 obtain⟨a1,a2,a3,a4,a5,a6⟩:=a;obtain⟨b1,b2,b3,b4,b5,b6⟩:=b;rw[iH];by_cases h1:a1=b1 <;> by_cases h2:a2=b2 <;> by_cases h3:a3=b3 <;> by_cases h4:a4=b4 <;> by_cases h5:a5=b5 <;> by_cases h6:a6=b6 <;> simp[h1,h2,h3,h4,h5,h6]
theorem Pw(s:cG)(g:Sig)(k:cR):NQ.Fn cx 102 [.agg (cg s),.agg (gK g),.agg (cd k)] (.d (.bool (qz s g k))) []:=by
 refine aU bp mixed Tryz.func102 ?_;conv=>whnf
 (refine⟨_,_,JP s g.ah k g.since g.aO,?_⟩;conv=>whnf)
 unfold qz;obtain⟨r,e,hr⟩:∃r e,lF s g.ah k g.since g.aO=(r,e):=⟨_,_,rfl⟩
 rw[hr];conv=>whnf
 cases he:(e==0)with
 |false =>
  conv=>whnf
  exact al rfl rfl
 |true =>
  conv=>whnf
  refine al rfl ?_;show AV.d (D.bool (r.ah==g.ah&&_))=_
  rw[ic, <- Vg]
theorem Na(l:List cR)(p:cR->Bool)(x:D)(hn:l.length<=100000)(hf:∀s∈l,NQ.Fn cx 51 [.agg (cd s),x] (.d (.bool (p s))) []) :
 NQ.Fn cx 50 [.slice 2 (l.map cd),.fn 51 [] [x]] (.tuple [.agg ((cd (nJ BC p l)).map .d),.d (.bool (l.find? p).isSome)]) []:=by
 refine aU bp mixed Tryz.func50 ?_;conv=>whnf
 refine⟨Nat,λk=>⟨[(1,.d (.fn 51 [] [x])),(4,.ptr 4 0),(9,.d (.slice 2 (l.map cd))),(10,.d (.int .i64 ((l.map cd).length:Int))),(11,.d (.int .i64 k))],[(4,.box ((cd BC).map .d))]⟩,λk=>k<=l.length/\(l.take k).find? p=none,λk=>l.length-k,
  ⟨0,⟨by omega,rfl⟩,aK.keep⟩,λk hk=>?_⟩
 obtain⟨hk,hD⟩:=hk;conv=>whnf
 refine ak (λh1=>?_) (λh1=>?_) <;> (rw[h1];conv=>whnf)
 .have hA:k<l.length:=by simp at h1;omega
  obtain⟨s,hs⟩:∃s,l[k]? =some s:=⟨_,au hA⟩
  refine⟨aD k,cd s,aN hs,?_⟩;conv=>whnf
  (refine⟨_,_,hf s (aC hs),?_⟩;conv=>whnf)
  have hl:l=l.take k++s::l.drop (k+1):=by
   rw[show s=l[k]'hA from(aB.1 hs).2.symm];simp
  refine ak (λh2=>?_) (λh2=>?_) <;> (rw[h2];conv=>whnf)
  .have kh:l.find? p=some s:=by
    rw[hl,List.find?_append,hD,List.find?_cons,h2];rfl
   refine al rfl ?_;unfold nJ;rw[kh];rfl
  .exact⟨k+1,⟨hA,by rw[bP hs,List.find?_append,hD,List.find?_cons,h2];rfl⟩,by(show l.length-(k+1)<l.length-k;omega),aK.keep ⟨ae,ae,ae,ae,⟨ax (by omega),rfl⟩,trivial⟩⟩
 .obtain rfl:k=l.length:=by simp at h1;omega
  rw[List.take_length]at hD;refine al rfl ?_;unfold nJ;rw[hD];rfl
theorem Nb(l:List cR)(p:cR->Bool)(x y:D)(hn:l.length<=100000)(hf:∀s∈l,NQ.Fn cx 101 [.agg (cd s),x,y] (.d (.bool (p s))) []) :
 NQ.Fn cx 50 [.slice 2 (l.map cd),.fn 101 [] [x,y]] (.tuple [.agg ((cd (nJ BC p l)).map .d),.d (.bool (l.find? p).isSome)]) []:=by
 refine aU bp mixed Tryz.func50 ?_;conv=>whnf
 refine⟨Nat,λk=>⟨[(1,.d (.fn 101 [] [x,y])),(4,.ptr 4 0),(9,.d (.slice 2 (l.map cd))),(10,.d (.int .i64 ((l.map cd).length:Int))),(11,.d (.int .i64 k))],[(4,.box ((cd BC).map .d))]⟩,λk=>k<=l.length/\(l.take k).find? p=none,λk=>l.length-k,
  ⟨0,⟨by omega,rfl⟩,aK.keep⟩,λk hk=>?_⟩
 obtain⟨hk,hD⟩:=hk;conv=>whnf
 refine ak (λh1=>?_) (λh1=>?_) <;> (rw[h1];conv=>whnf)
 .have hA:k<l.length:=by simp at h1;omega
  obtain⟨s,hs⟩:∃s,l[k]? =some s:=⟨_,au hA⟩
  refine⟨aD k,cd s,aN hs,?_⟩;conv=>whnf
  (refine⟨_,_,hf s (aC hs),?_⟩;conv=>whnf)
  have hl:l=l.take k++s::l.drop (k+1):=by
   rw[show s=l[k]'hA from(aB.1 hs).2.symm];simp
  refine ak (λh2=>?_) (λh2=>?_) <;> (rw[h2];conv=>whnf)
  .have kh:l.find? p=some s:=by
    rw[hl,List.find?_append,hD,List.find?_cons,h2];rfl
   refine al rfl ?_;unfold nJ;rw[kh];rfl
  .exact⟨k+1,⟨hA,by rw[bP hs,List.find?_append,hD,List.find?_cons,h2];rfl⟩,by(show l.length-(k+1)<l.length-k;omega),aK.keep ⟨ae,ae,ae,ae,⟨ax (by omega),rfl⟩,trivial⟩⟩
 .obtain rfl:k=l.length:=by simp at h1;omega
  rw[List.take_length]at hD;refine al rfl ?_;unfold nJ;rw[hD];rfl
theorem PS(l:List Sig)(p:Sig->Bool)(x1 x2 x3 x4 x5:D)(hn:l.length<=100000)(hf:∀s∈l,NQ.Fn cx 100 [.agg (gK s),x1,x2,x3,x4,x5] (.d (.bool (p s))) []) :
 NQ.Fn cx 99 [.slice 6 (l.map gK),.fn 100 [] [x1,x2,x3,x4,x5]] (.tuple [.agg ((gK (nJ xO p l)).map .d),.d (.bool (l.find? p).isSome)]) []:=by
 refine aU bp mixed Tryz.func99 ?_;conv=>whnf
 refine⟨Nat,λk=>⟨[(1,.d (.fn 100 [] [x1,x2,x3,x4,x5])),(4,.ptr 4 0),(9,.d (.slice 6 (l.map gK))),(10,.d (.int .i64 ((l.map gK).length:Int))),(11,.d (.int .i64 k))],[(4,.box ((gK xO).map .d))]⟩,λk=>k<=l.length/\(l.take k).find? p=none,λk=>l.length-k,
  ⟨0,⟨by omega,rfl⟩,aK.keep⟩,λk hk=>?_⟩
 obtain⟨hk,hD⟩:=hk;conv=>whnf
 refine ak (λh1=>?_) (λh1=>?_) <;> (rw[h1];conv=>whnf)
 .have hA:k<l.length:=by simp at h1;omega
  obtain⟨s,hs⟩:∃s,l[k]? =some s:=⟨_,au hA⟩
  refine⟨aD k,gK s,aN hs,?_⟩;conv=>whnf
  (refine⟨_,_,hf s (aC hs),?_⟩;conv=>whnf)
  have hl:l=l.take k++s::l.drop (k+1):=by
   rw[show s=l[k]'hA from(aB.1 hs).2.symm];simp
  refine ak (λh2=>?_) (λh2=>?_) <;> (rw[h2];conv=>whnf)
  .have kh:l.find? p=some s:=by
    rw[hl,List.find?_append,hD,List.find?_cons,h2];rfl
   refine al rfl ?_;unfold nJ;rw[kh];rfl
  .exact⟨k+1,⟨hA,by rw[bP hs,List.find?_append,hD,List.find?_cons,h2];rfl⟩,by(show l.length-(k+1)<l.length-k;omega),aK.keep ⟨ae,ae,ae,ae,⟨ax (by omega),rfl⟩,trivial⟩⟩
 .obtain rfl:k=l.length:=by simp at h1;omega
  rw[List.take_length]at hD;refine al rfl ?_;unfold nJ;rw[hD];rfl
theorem Ig(t k:cR):NQ.Fn cx 51 [.agg (cd t),.ptr (cd k)] (.d (.bool (eqK t k))) []:=by
 refine aU bp mixed Tryz.func51 ?_;conv=>whnf
 refine al rfl ?_;rw[<- Vf];rfl
theorem Iv(s:Signed)(g:Sig)(k:cR):NQ.Fn cx 101 [.agg (cd k),.ptr (aw s),.ptr (gK g)] (.d (.bool (qz s.set g k))) []:=by
 refine aU bp mixed Tryz.func101 ?_;conv=>whnf
 (refine⟨_,_,Pw s.set g k,?_⟩;conv=>whnf)
 exact al rfl rfl
theorem LK(s:Signed)(ah:Bs)(keys:List cR)(a d:Int)(g:Sig)(hn:keys.length<=100000):NQ.Fn cx 100 [.agg (gK g),.ptr [.str ah],.ptr [.int .i64 a],.ptr [.int .i64 d],.ptr [.slice 2 (keys.map cd)],.ptr (aw s)] (.d (.bool (zn s.set ah keys a d g))) []:=by
 refine aU bp mixed Tryz.func100 ?_;conv=>whnf
 repeat' (first|(refine ak (λh=>?_) (λh=>?_) <;> (rw[h];conv=>whnf))|fail)
 all_goals first
  |(refine al rfl ?_;show AV.d (D.bool _)=_;simp only[zn,Ea, *, if_true,if_false,aY];done)
  | ((refine ⟨_, Nb keys (qz s.set g) _ _ hn (fun k _ => Iv s g k), rfl, ?_⟩; conv => whnf)
     refine al rfl ?_;show AV.d (D.bool _)=_;simp only[zn,Ea, *, if_true,if_false,aY];done)
  |skip
theorem GQ(a d:Int):NQ.Fn cx 98 [.int .i64 a,.int .i64 d] (.d (.bool (gM a d))) []:=by
 refine aU bp mixed Tryz.func98 ?_;conv=>whnf
 repeat' (first
  |(refine ak (λh=>?_) (λh=>?_) <;> (rw[h];conv=>whnf))
  |(refine al rfl ?_;show AV.d (D.bool _)=_;simp only[gM, *, if_true,if_false,aY];done)
  |fail)
theorem RG(a d:Int):NQ.Fn cx 18 [.int .i64 a,.int .i64 d] (.d (.bool (gM a d))) []:=by
 refine aU bp mixed Tryz.func18 ?_;conv=>whnf
 repeat' (first
  |(refine ak (λh=>?_) (λh=>?_) <;> (rw[h];conv=>whnf))
  |(refine al rfl ?_;show AV.d (D.bool _)=_;simp only[gM, *, if_true,if_false,aY];done)
  |fail)
theorem On(s:Signed)(ah:Bs)(keys:List cR)(a d:Int)(hn:keys.length<=100000)(hs:s.sigs.length<=100000):NQ.Fn cx 52 [.agg (aw s),.str ah,.slice 2 (keys.map cd),.int .i64 a,.int .i64 d] (.d (.bool (xI s ah keys a d))) []:=by
 refine aU bp mixed Tryz.func52 ?_;conv=>whnf
 (refine⟨_,_,GQ a d,?_⟩;conv=>whnf)
 unfold xI;cases gM a d with
 |false =>
  conv=>whnf
  exact al rfl rfl
 |true =>
  conv=>whnf
  (refine⟨_,PS s.sigs (zn s.set ah keys a d) _ _ _ _ _ hs (λg _=>LK s ah keys a d g hn),rfl,?_⟩;conv=>whnf)
  exact al rfl rfl
theorem FX(b:cG)(s:Signed)(at_ d:Int)(hs:s.sigs.length<=100000):NQ.Fn cx 20 [.agg (cg b),.agg (aw s),.int .i64 at_,.int .i64 d] (.d (.bool (mM b s at_ d))) []:=by
 refine eS (fun|14=>[57]|_=>[]) bp mixed Tryz.func20 ?_;conv=>whnf
 (refine⟨_,_,jI b,?_⟩;conv=>whnf)
 unfold mM;cases hb:dX b with
 |false =>
  conv=>whnf
  exact al rfl rfl
 |true =>
 conv=>whnf
 cases h6:(b.type==6)with
 |false =>
  rw[show(b.type != 6)=true by simpa using h6];conv=>whnf
  exact al rfl rfl
 |true =>
 rw[show(b.type != 6)=false by simpa using h6];conv=>whnf
 (refine⟨_,_,jI s.set,?_⟩;conv=>whnf)
 cases hv:dX s.set with
 |false =>
  conv=>whnf
  exact al rfl rfl
 |true =>
 conv=>whnf
 cases h7:(s.set.type==7)with
 |false =>
  rw[show(s.set.type != 7)=true by simpa using h7];conv=>whnf
  exact al rfl rfl
 |true =>
 rw[show(s.set.type != 7)=false by simpa using h7];conv=>whnf
 cases kr:(s.set.name==b.name)with
 |false =>
  conv=>whnf
  exact al rfl rfl
 |true =>
 conv=>whnf
 have l1:b.data.length<=8:=mw hb;have l2:s.set.data.length<=8:=mw hv
 (refine⟨_,_,wh b (by omega),?_⟩;conv=>whnf)
 (refine⟨_,_,wh s.set (by omega),?_⟩;conv=>whnf)
 have xg:(cK s.set).length=s.set.data.length:=by unfold cK;rw[aA]
 have xe:(cK b).length=b.data.length:=by unfold cK;rw[aA]
 refine⟨Nat,λk=>⟨[(2,.d (.int .i64 at_)),(3,.d (.int .i64 d)),(4,.ptr 4 0),(5,.ptr 5 0),(9,.d (.slice 2 ((cK b).map cd))),(10,.own 57),(45,.d (.slice 2 ((cK s.set).map cd))),(46,.d (.int .i64 (((cK s.set).map cd).length:Int))),(47,.d (.int .i64 k))],[(57,.row 31 2 ((((cK s.set).take k).filter λq=>((cK b).find? λt=>eqK t q).isSome).map cd)),(4,.box ((cg b).map .d)),(5,.box ((aw s).map .d))]⟩,λk=>k<=(cK s.set).length,λk=>(cK s.set).length-k,
  ⟨0,Nat.zero_le _,(aK.jV 10 57 2 31 2 rfl rfl (by decide)).trans (aK.keep)⟩,?_⟩
 intro k hk;conv=>whnf
 refine ak (λh1=>?_) (λh1=>?_) <;> (rw[h1];conv=>whnf)
 .have hA:k<(cK s.set).length:=by simp at h1;omega
  obtain⟨q,hq⟩:∃q,(cK s.set)[k]? =some q:=⟨_,au hA⟩
  have kC:=List.length_filter_le (λq=>((cK b).find? λt=>eqK t q).isSome) ((cK s.set).take k);rw[List.length_take]at kC;have hK:((cK s.set).take (k+1)).filter (λq=>((cK b).find? λt=>eqK t q).isSome)=((cK s.set).take k).filter (λq=>((cK b).find? λt=>eqK t q).isSome)++if ((cK b).find? λt=>eqK t q).isSome=true then[q]else[]:=by
   rw[bP hq,List.filter_append,List.filter_cons,List.filter_nil]
  refine⟨aD k,cd q,aN hq,?_⟩;conv=>whnf
  (refine⟨_,Na (cK b) (λt=>eqK t q) _ (by omega) (λt _=>Ig t q),rfl,?_⟩;conv=>whnf)
  cases hf:((cK b).find? λt=>eqK t q).isSome with
  |false =>
   rw[hf,if_neg (by decide),List.append_nil]at hK;conv=>whnf
   exact⟨k+1,hA,by(show(cK s.set).length-(k+1)<(cK s.set).length-k;omega),aK.keep ⟨ae,ae,ae,ae,ae,ae,ae,ae,⟨ax (k:=k) (by omega),rfl⟩,trivial⟩ ⟨⟨by rw[hK];rfl,rfl⟩,(by repeat' (first|exact trivial|refine⟨ae,?_⟩))⟩⟩
  |true =>
   rw[hf,if_pos rfl]at hK;have kn:(((cK s.set).take (k+1)).filter (λq=>((cK b).find? λt=>eqK t q).isSome)).map cd=(((cK s.set).take k).filter (λq=>((cK b).find? λt=>eqK t q).isSome)).map cd++[cd q]:=by rw[hK,List.map_append];rfl
   conv=>whnf
   refine⟨by simp;omega,by simp;omega,?_⟩;conv=>whnf
   exact⟨k+1,hA,by(show(cK s.set).length-(k+1)<(cK s.set).length-k;omega),aK.keep ⟨ae,ae,ae,ae,ae,ae,ae,ae,⟨ax (k:=k) (by omega),rfl⟩,trivial⟩ ⟨⟨by rw[kn];rfl,rfl⟩,(by repeat' (first|exact trivial|refine⟨ae,?_⟩))⟩⟩
 .obtain rfl:k=(cK s.set).length:=by simp at h1;omega
  rw[List.take_length];have kC:=List.length_filter_le (λq=>((cK b).find? λt=>eqK t q).isSome) (cK s.set)
  (refine⟨_,_,On s b.name (qk b s.set) at_ d (by unfold qk;omega) hs,?_⟩;conv=>whnf)
  exact al rfl rfl
end Go.Proofs.YtodofogcincleaaGreatDoor
