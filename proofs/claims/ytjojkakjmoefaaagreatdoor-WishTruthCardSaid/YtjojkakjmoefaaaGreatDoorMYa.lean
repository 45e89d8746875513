/-
  Merged texts.
-/
import Derived.Test.YtjojkakjmoefaaaGreatDoorMQbs
import Derived.Test.YtjojkakjmoefaaaGreatDoorMGk
set_option linter.all false
set_option maxHeartbeats 2000000
set_option maxRecDepth 100000
namespace Go.Proofs.YtjojkakjmoefaaaGreatDoor
open NQ Go.RowKit
def iL(c:Int):List D:=[.int .u8 c]
def dq(n:Int):List D:=[.int .i64 n]
def aa4(x c:Int):Int:=IntKind.u64.wrap<|VT .u64 x (IntKind.u64.wrap c)*1099511628211
def np:Int->List Int->Int
 |x,[]=>x
 |x,c::t=>np (aa4 x c) t
def fC(n:Int):List Int:=(List.range 8).map λi=>IntKind.u8.wrap<|(IntKind.u64.wrap n).fdiv<|2 ^ (56-8*i)
def sL:Int->List Int->Int
 |x,[]=>x
 |x,n::t=>sL (np x<|fC n) t
def vY(s:Bs):List Int:=s.map λc=>(c.toNat:Int)
def Ht(s:Bs):fm s=(vY s).map iL:=by simp[fm,vY,iL,Function.comp_def]
def Yn(set:List Int)(ai:Bs)(n m since aT:Int):Int :=
 sL (np (np (np 14695981039346656037 set) [IntKind.u8.wrap (ai.length:Int)])<|vY ai) [n,m,since,aT]
def acb(n m:Int):List D:=[.int .i64 n,.int .i64 m]
def As(x:Int)(l:List Int)(I:l.length<=100000000):FnB cx 239 [.int .u64 x] [.slice 1<|l.map iL] (.tuple []) [.int .u64<|np x l]:=by
 refine iw (λ_=>[]) bf mixed Tryz.func239 ?_;conv=>whnf
 refine⟨Nat×Int,λy=>⟨[(0,.ptr 100000 0),(6,.d<|.slice 1<|l.map iL),(7,aj ((l.map iL).length:Int)),(8,aj y.1)],[(100000,.box [.d<|.int .u64 y.2])]⟩,
  λy=>y.1<=l.length/\np y.2 (l.drop y.1)=np x l,λy=>l.length-y.1,⟨(0,x),⟨by omega,rfl⟩,aI.keep⟩,?_⟩
 rintro⟨k,d⟩ ⟨H,j⟩;simp only at H j;conv=>whnf
 refine aD ?_ ?_<;>intro h1
 .have G:k<l.length:=by simp at h1;omega
  obtain⟨c,D⟩:∃c,l[k]? =some c:=⟨_,ao G⟩
  rw[drop_cons D,np]at j;refine⟨aB k,iL c,aL D,M ?_⟩
  refine⟨(k+1,aa4 d c),⟨G,j⟩,by(show l.length-(k+1)<l.length-k;omega),aI.keep⟩
 .obtain rfl:k=l.length:=by simp at h1;omega
  rw[List.drop_length,np]at j;refine⟨[],_,_,rfl,rfl,rfl,?_⟩;rw[<- j];rfl
noncomputable def ja (l:List (Nat×Nat)) (f:Nat):Nat:=match find l f with|some n=>n|none=>cx.chg f
noncomputable def cxG:Cx:={cx with chg:=ja [(239,3),(238,9)],bld:=[19,31]}
def tyG:bC cxG:=bf
def Up:cxG.P.follows .mixedOrders=true:=mixed
def pv0:Int->Value:=λ_=>undef
def Ym(x:Int)(l:List Int)(J:l.length<=100000):FnP cxG pv0 238 [.d<|.slice 1<|l.map dq,.ptr 100011 0] [(100011,.box [.d<|.int .u64 x])]<|some (.tuple [],[(100011,.box [.d<|.int .u64<|sL x l])]):=by
 refine bq [] (fun|9=>[33333,5]|_=>[]) tyG Up Tryz.func238 ?_;conv=>whnf
 refine⟨Nat×Int,λy=>⟨[(1,.ptr 100011 0),(7,.d<|.slice 1<|l.map dq),(8,aj ((l.map dq).length:Int)),(9,aj y.1)],[(100011,.box [.d<|.int .u64 y.2])]⟩,
  λy=>y.1<=l.length/\sL y.2 (l.drop y.1)=sL x l,λy=>l.length-y.1,⟨(0,x),⟨by omega,rfl⟩,(aq.keep)⟩,?_⟩
 rintro⟨k,d⟩ ⟨H,j⟩;simp only at H j;conv=>whnf
 refine aD ?_ ?_<;>intro h1
 .have D:k<l.length:=by simp at h1;omega
  obtain⟨n,G⟩:∃n,l[k]? =some n:=⟨_,ao D⟩
  rw[drop_cons G,sL]at j;refine⟨aB k,dq n,aL G,M ?_⟩
  refine⟨Nat,λi=>⟨[(1,.ptr 100011 0),(4,aj n),(5,.ptr 5 0),(7,.d<|.slice 1<|l.map dq),(8,aj ((l.map dq).length:Int)),(9,aj k),(13,aj i)],[(100011,.box [.d<|.int .u64 d]),(5,.box (((fC n).take i++List.replicate (8-i) 0).map λc=> .d<|.int .u8 c))]⟩,
   λi=>i<=8,λi=>8-i,⟨0,by omega,(aq.keep)⟩,?_⟩
  intro i I;rcases i with _|_|_|_|_|_|_|_|_|i
  case succ.succ.succ.succ.succ.succ.succ.succ.succ=>omega
  all_goals conv=>whnf
  all_goals try (refine⟨by decide,by decide,M ?_⟩)
  .exact⟨1,by decide,by decide,aq.keep ⟨ae,ae,ae,ae,ae,ae,ae,trivial⟩ ⟨ae,⟨by kernel_rfl,rfl⟩,trivial⟩⟩
  .exact⟨2,by decide,by decide,aq.keep ⟨ae,ae,ae,ae,ae,ae,ae,trivial⟩ ⟨ae,⟨by kernel_rfl,rfl⟩,trivial⟩⟩
  .exact⟨3,by decide,by decide,aq.keep ⟨ae,ae,ae,ae,ae,ae,ae,trivial⟩ ⟨ae,⟨by kernel_rfl,rfl⟩,trivial⟩⟩
  .exact⟨4,by decide,by decide,aq.keep ⟨ae,ae,ae,ae,ae,ae,ae,trivial⟩ ⟨ae,⟨by kernel_rfl,rfl⟩,trivial⟩⟩
  .exact⟨5,by decide,by decide,aq.keep ⟨ae,ae,ae,ae,ae,ae,ae,trivial⟩ ⟨ae,⟨by kernel_rfl,rfl⟩,trivial⟩⟩
  .exact⟨6,by decide,by decide,aq.keep ⟨ae,ae,ae,ae,ae,ae,ae,trivial⟩ ⟨ae,⟨by kernel_rfl,rfl⟩,trivial⟩⟩
  .exact⟨7,by decide,by decide,aq.keep ⟨ae,ae,ae,ae,ae,ae,ae,trivial⟩ ⟨ae,⟨by kernel_rfl,rfl⟩,trivial⟩⟩
  .exact⟨8,by decide,by decide,aq.keep ⟨ae,ae,ae,ae,ae,ae,ae,trivial⟩ ⟨ae,⟨by kernel_rfl,rfl⟩,trivial⟩⟩
  .refine⟨_,_,As d (fC n)<|by simp[fC],M ?_⟩
   exact⟨(k+1,np d<|fC n),⟨D,j⟩,by(show l.length-(k+1)<l.length-k;omega),aq.keep⟩
 .obtain rfl:k=l.length:=by simp at h1;omega
  rw[List.drop_length,sL]at j;exact .inl ⟨[],(aq.keep trivial ⟨⟨by rw[<- j];rfl,rfl⟩,trivial⟩),rfl⟩
def abK(set:List Int)(ai:Bs)(n m since aT:Int)(h1:set.length<=10000000)(X:ai.length<=1000000):NQ.Fn cxG 212 [.slice 1<|set.map iL,.str ai,.agg<|acb n m,.int .i64 since,.int .i64 aT] (.d<|.int .u64<|Yn set ai n m since aT) []:=by
 refine kF (pv:=pv0) ?_;refine bq [100011] (fun|3=>[55555]|5=>[33333]|6=>[33333,55555]|_=>[]) tyG Up Tryz.func212 ?_;have key:∀D G j H:Int,D=np 14695981039346656037 set->G=np D [IntKind.u8.wrap (ai.length:Int)]->j=np G (vY ai)->H=sL j [n,m,since,aT]->Yn set ai n m since aT=H:=by
  rintro _ _ _ _ rfl rfl rfl rfl;rfl
 obtain⟨D,I⟩:∃x,x=np 14695981039346656037 set:=⟨_,rfl⟩
 obtain⟨G,J⟩:∃x,x=np D [IntKind.u8.wrap (ai.length:Int)]:=⟨_,rfl⟩
 obtain⟨j,K⟩:∃x,x=np G (vY ai):=⟨_,rfl⟩
 obtain⟨H,N⟩:∃x,x=sL j [n,m,since,aT]:=⟨_,rfl⟩
 rw[key D G j H I J K N];have T:=As 14695981039346656037 set (by omega);rw[<- I]at T;have U:=As D [IntKind.u8.wrap (ai.length:Int)] (by simp);rw[<- J]at U;have V:=As G (vY ai) (by rw[vY,au];omega);rw[<- K, <- Ht]at V;have W:=Ym j [n,m,since,aT] (by simp);rw[<- N]at W;clear key I J K N;conv=>whnf
 refine⟨_,aq.name 11 100011 rfl rfl,M ?_⟩
 refine⟨_,_,T,M ?_⟩
 refine⟨_,_,U,M ?_⟩
 refine⟨_,_,V,M ?_⟩
 refine⟨_,aq.keep (sl:=[(3,aj since),(4,aj aT),(7,.ptr 7 0),(11,.ptr 100011 0),(12,.fn 238 [] [.ptr 100011 0])]) (h:=[(7,.box [aj n,aj m]),(100011,.box [.d<|.int .u64 j])]),M ?_⟩
 refine⟨[7],_,W,⟨rfl,rfl,rfl⟩,M ?_⟩
 refine aN<|M ?_
 exact .inl ⟨[(10,.d<|.int .u64 H)],aq.keep,rfl⟩
def iz(t:Bs):List Int:=IntKind.u8.wrap (t.length:Int)::vY t
def QA(d:Datum):List Int:=iz d.text++fC d.n++fC d.m
def iv:List Datum->List Int
 |[]=>[]
 |d::t=>QA d++iv t
def setBytes(s:cH):List Int:=iz s.name++fC s.type++fC s.aJ++[IntKind.u8.wrap (s.data.length:Int)]++iv s.data
def yk(s:Bs):(vY s).length=s.length:=by simp[vY]
def uk(n:Int):(fC n).length=8:=by simp[fC]
def JS(d:Datum):(QA d).length=d.text.length+17:=by simp[QA,iz,yk,uk]
def GB:∀a b:List Datum,iv (a++b)=iv a++iv b
 |[],b=>rfl
 |d::t,b=>by simp[iv,GB t b]
def yX:∀(l:List Datum) (_:∀d∈l,d.text.length<=100000),(iv l).length<=l.length*100017
 |[],_=>by simp[iv]
 |d::t,h=>by
  have h1:=yX t λd j=>h d<|aZ _ j
  have D:=h d (List.mem_cons_self ..);simp only[iv,List.length_append,JS,List.length_cons];omega
noncomputable def cxY:Cx:={cx with chg:=ja [(236,9),(237,9)],bld:=[9,16,27]}
def tyY:bC cxY:=bf
def DS:cxY.P.follows .mixedOrders=true:=mixed
abbrev pf(l:List Int):Blk:= .row 5 1<|l.map iL
def Bj(l:List Int)(t:Bs)(j:l.length<=10000000000000)(D:t.length<=1000000000):FnP cxY pv0 236 [.own 90050,.d<|.str t] [(90050,pf l)]<|some (.own 90050,[(90050,pf<|l++iz t)]):=by
 refine bq [] (fun|2=>[33333]|_=>[]) tyY DS Tryz.func236 ?_;conv=>whnf
 refine⟨by(show(l.map iL).length+1<=_;rw[au];omega),by(show((l.map iL).length+1)*1<=_;rw[au];omega),M ?_⟩
 refine⟨by(show(l.map iL++_).length+t.length<=_;rw[List.length_append,au];show l.length+1+t.length<=_;omega),M ?_⟩
 refine .inl ⟨[(4,.own 90050)],aq.keep ⟨ae,trivial⟩ ⟨⟨?_,rfl⟩,trivial⟩,rfl⟩;show some (Blk.row _ _<|l.map iL++[[_]]++fm t)=some (Blk.row _ _ _)
 rw[Ht,iz,List.map_append,List.append_assoc];rfl
def sG(l:List Int)(n:Int)(I:l.length<=10000000000000):FnP cxY pv0 237 [.own 90050,aj n] [(90050,pf l)]<|some (.own 90050,[(90050,pf<|l++fC n)]):=by
 refine bq [] (fun|_=>[]) tyY DS Tryz.func237 ?_;conv=>whnf
 refine⟨Nat,λi=>⟨[(0,.own 90050),(1,aj n),(5,aj<|56-8*(i:Int))],[(90050,pf<|l++(fC n).take i)]⟩,λi=>i<=8,λi=>8-i,⟨0,by omega,aq.keep ⟨ae,ae,ae,trivial⟩ ⟨⟨by(show some (Blk.row _ _ _)=some (Blk.row _ _ _);rw[List.take_zero,List.append_nil]),rfl⟩,trivial⟩⟩,?_⟩;intro i G;have step:∀i,i<8->(l++(fC n).take i).map iL++[[D.int .u8<|IntKind.u8.wrap<|(IntKind.u64.wrap n).fdiv<|2 ^ (56-8*i)]]=(l++(fC n).take (i+1)).map iL:=λi G=>by
  have h:(fC n)[i]? =some (IntKind.u8.wrap<|(IntKind.u64.wrap n).fdiv<|2 ^ (56-8*i)):=by simp[fC,G]
  rw[List.take_add_one,h];simp[iL]
 have j:∀i,i<8->((l++(fC n).take i).map iL).length+1<=10000000000100:=λi G=>by
  rw[au,List.length_append,List.length_take];omega
 have H:(fC n).take 8=fC n:=List.take_of_length_le (by simp[fC]);rcases i with _|_|_|_|_|_|_|_|_|i
 case succ.succ.succ.succ.succ.succ.succ.succ.succ=>omega
 all_goals conv=>whnf
 .refine⟨Nat.le_trans (j 0<|by omega)<|by decide,(Nat.mul_one _).symm ▸ Nat.le_trans (j 0<|by omega) (by decide),M ?_⟩
  exact⟨1,by decide,by decide,aq.keep ⟨ae,ae,ae,trivial⟩ ⟨⟨congrArg (λr=>some<|Blk.row 5 1 r)<|step 0<|by omega,rfl⟩,trivial⟩⟩
 .refine⟨Nat.le_trans (j 1<|by omega)<|by decide,(Nat.mul_one _).symm ▸ Nat.le_trans (j 1<|by omega) (by decide),M ?_⟩
  exact⟨2,by decide,by decide,aq.keep ⟨ae,ae,ae,trivial⟩ ⟨⟨congrArg (λr=>some<|Blk.row 5 1 r)<|step 1<|by omega,rfl⟩,trivial⟩⟩
 .refine⟨Nat.le_trans (j 2<|by omega)<|by decide,(Nat.mul_one _).symm ▸ Nat.le_trans (j 2<|by omega) (by decide),M ?_⟩
  exact⟨3,by decide,by decide,aq.keep ⟨ae,ae,ae,trivial⟩ ⟨⟨congrArg (λr=>some<|Blk.row 5 1 r)<|step 2<|by omega,rfl⟩,trivial⟩⟩
 .refine⟨Nat.le_trans (j 3<|by omega)<|by decide,(Nat.mul_one _).symm ▸ Nat.le_trans (j 3<|by omega) (by decide),M ?_⟩
  exact⟨4,by decide,by decide,aq.keep ⟨ae,ae,ae,trivial⟩ ⟨⟨congrArg (λr=>some<|Blk.row 5 1 r)<|step 3<|by omega,rfl⟩,trivial⟩⟩
 .refine⟨Nat.le_trans (j 4<|by omega)<|by decide,(Nat.mul_one _).symm ▸ Nat.le_trans (j 4<|by omega) (by decide),M ?_⟩
  exact⟨5,by decide,by decide,aq.keep ⟨ae,ae,ae,trivial⟩ ⟨⟨congrArg (λr=>some<|Blk.row 5 1 r)<|step 4<|by omega,rfl⟩,trivial⟩⟩
 .refine⟨Nat.le_trans (j 5<|by omega)<|by decide,(Nat.mul_one _).symm ▸ Nat.le_trans (j 5<|by omega) (by decide),M ?_⟩
  exact⟨6,by decide,by decide,aq.keep ⟨ae,ae,ae,trivial⟩ ⟨⟨congrArg (λr=>some<|Blk.row 5 1 r)<|step 5<|by omega,rfl⟩,trivial⟩⟩
 .refine⟨Nat.le_trans (j 6<|by omega)<|by decide,(Nat.mul_one _).symm ▸ Nat.le_trans (j 6<|by omega) (by decide),M ?_⟩
  exact⟨7,by decide,by decide,aq.keep ⟨ae,ae,ae,trivial⟩ ⟨⟨congrArg (λr=>some<|Blk.row 5 1 r)<|step 6<|by omega,rfl⟩,trivial⟩⟩
 .refine⟨Nat.le_trans (j 7<|by omega)<|by decide,(Nat.mul_one _).symm ▸ Nat.le_trans (j 7<|by omega) (by decide),M ?_⟩
  exact⟨8,by decide,by decide,aq.keep ⟨ae,ae,ae,trivial⟩ ⟨⟨congrArg (λr=>some<|Blk.row 5 1 r)<|step 7<|by omega,rfl⟩,trivial⟩⟩
 .refine .inl ⟨[(4,.own 90050)],aq.keep ⟨ae,trivial⟩ ⟨⟨?_,rfl⟩,trivial⟩,rfl⟩;show some (Blk.row _ _<|(l++(fC n).take 8).map iL)=some (Blk.row _ _ _)
  rw[H]
def Td(s:cH)(T:eE s=true)(h1:s.name.length<=100000)(G:∀d∈s.data,d.text.length<=100000)(Y:s.data.length<=10000) :
 FnP cxY pv0 211 [.agg<|(bV s).map .d] [] (some (.tuple [.own 90050,aj 0],[(90050,pf<|setBytes s)])):=by
 refine bq [] (fun|4=>[33333,55555]|5=>[33333,55555]|6=>[33333,55555]|7=>[55555]|11=>[33333]|12=>[33333,55555]|13=>[33333,55555]|_=>[]) tyY DS Tryz.func211 ?_;conv=>whnf
 (refine⟨_,_,oQ s,M ?_⟩)
 rw[T];conv=>whnf
 have hb:=yX s.data G;have l1:(iz s.name).length<=100001:=by rw[iz,List.length_cons,yk];omega
 have l2:(iz s.name++fC s.type).length<=100010:=by rw[List.length_append,uk];omega
 have U:(iz s.name++fC s.type++fC s.aJ).length<=100020:=by rw[List.length_append,uk];omega
 have I:∀k,(iz s.name++fC s.type++fC s.aJ++[IntKind.u8.wrap (s.data.length:Int)]++iv (s.data.take k)).length<=2000000000:=λk=>by
  have Z:=yX (s.data.take k) λd K=>G d<|List.mem_of_mem_take K
  have J:(s.data.take k).length<=s.data.length:=by rw[List.length_take];omega
  have h6:(s.data.take k).length*100017<=s.data.length*100017:=Nat.mul_le_mul_right _ J;simp only[List.length_append,List.length_singleton]at U ⊢;omega
 refine⟨_,(aq.kz 4 90050 1 5 1 rfl rfl<|by decide).trans<|aq.keep (sl:=[(1,.ptr 1 0),(4,.own 90050)]) (h:=[(1,.box<|(bV s).map .d),(90050,pf [])]),M ?_⟩
 refine⟨[1],_,Bj [] s.name (by simp)<|by omega,⟨rfl,rfl,rfl⟩,M ?_⟩
 refine aN<|M ?_
 refine⟨_,aq.keep (sl:=[(1,.ptr 1 0),(4,.own 90050)]) (h:=[(1,.box<|(bV s).map .d),(90050,pf _)]),M ?_⟩
 refine⟨[1],_,sG (iz s.name) s.type<|by omega,⟨rfl,rfl,rfl⟩,M ?_⟩
 refine aN<|M ?_
 refine⟨_,aq.keep (sl:=[(1,.ptr 1 0),(4,.own 90050)]) (h:=[(1,.box<|(bV s).map .d),(90050,pf _)]),M ?_⟩
 refine⟨[1],_,sG (iz s.name++fC s.type) s.aJ<|by omega,⟨rfl,rfl,rfl⟩,M ?_⟩
 refine aN<|M ?_
 refine⟨_,aq.keep (sl:=[(1,.ptr 1 0),(4,.own 90050)]) (h:=[(1,.box<|(bV s).map .d),(90050,pf<|iz s.name++fC s.type++fC s.aJ)]),M ?_⟩
 refine⟨by(show(List.map iL _).length+1<=_;rw[au];omega),by(show((List.map iL _).length+1)*1<=_;rw[au];omega),M ?_⟩
 obtain⟨B,H⟩:∃B,B=iz s.name++fC s.type++fC s.aJ++[IntKind.u8.wrap (s.data.length:Int)]:=⟨_,rfl⟩
 rw[<- H]at I;refine⟨Nat,λk=>⟨[(1,.ptr 1 0),(4,.own 90050),(30,.d<|.slice 3<|s.data.map aS),(31,.d<|.int .i64 (s.data.map aS).length),(32,aj k)],[(1,.box<|(bV s).map .d),(90050,pf<|B++iv (s.data.take k))]⟩,
  λk=>k<=s.data.length,λk=>s.data.length-k,⟨0,by omega,aq.keep ⟨ae,ae,ae,ae,ae,trivial⟩ ⟨ae,⟨?_,rfl⟩,trivial⟩⟩,?_⟩
 .show some (Blk.row _ _<|List.map iL _++[[_]])=some (Blk.row _ _ _)
  rw[H,List.take_zero,iv,List.append_nil,au,List.map_append (l₂:=[_])];rfl
 intro k hk;conv=>whnf
 refine aD ?_ ?_<;>intro h1
 .have D:k<s.data.length:=by simp at h1;omega
  obtain⟨d,j⟩:∃d,s.data[k]? =some d:=⟨_,ao D⟩
  have N:=G d<|aw j;have V:=I k;refine⟨aB k,aS d,aL j,M ?_⟩
  have tl:(iz d.text).length<=100001:=by rw[iz,List.length_cons,yk];omega
  have W:(B++iv (s.data.take k)++iz d.text).length<=3000000000:=by rw[List.length_append];omega
  have X:(B++iv (s.data.take k)++iz d.text++fC d.n).length<=3000000010:=by rw[List.length_append,uk];omega
  refine⟨[1,6],_,Bj (B++iv (s.data.take k)) d.text (by omega)<|by omega,⟨rfl,rfl,rfl⟩,M ?_⟩
  refine aN<|M ?_
  refine⟨_,aq.keep (sl:=[(1,.ptr 1 0),(4,.own 90050),(6,.ptr 6 0),(30,.d<|.slice 3<|s.data.map aS),(31,.d<|.int .i64 (s.data.map aS).length),(32,aj k)]) (h:=[(1,.box<|(bV s).map .d),(6,.box<|(aS d).map .d),(90050,pf _)]),M ?_⟩
  refine⟨[1,6],_,sG (B++iv (s.data.take k)++iz d.text) d.n<|by omega,⟨rfl,rfl,rfl⟩,M ?_⟩
  refine aN<|M ?_
  refine⟨_,aq.keep (sl:=[(1,.ptr 1 0),(4,.own 90050),(6,.ptr 6 0),(30,.d<|.slice 3<|s.data.map aS),(31,.d<|.int .i64 (s.data.map aS).length),(32,aj k)]) (h:=[(1,.box<|(bV s).map .d),(6,.box<|(aS d).map .d),(90050,pf _)]),M ?_⟩
  refine⟨[1,6],_,sG (B++iv (s.data.take k)++iz d.text++fC d.n) d.m<|by omega,⟨rfl,rfl,rfl⟩,M ?_⟩
  refine aN<|M ?_
  refine⟨k+1,D,by(show s.data.length-(k+1)<s.data.length-k;omega),aq.keep ⟨ae,ae,ae,ae,⟨bj<|by omega,rfl⟩,trivial⟩ ⟨ae,⟨congrArg (λr=>some<|pf r) ?_,rfl⟩,trivial⟩⟩;rw[cj j,GB];simp[iv,QA]
 .obtain rfl:k=s.data.length:=by simp at h1;omega
  refine .inl ⟨[(2,.own 90050),(3,aj 0)],aq.keep ⟨ae,ae,trivial⟩ ⟨⟨congrArg (λr=>some<|pf r) ?_,rfl⟩,trivial⟩,rfl⟩;rw[List.take_length,H];rfl
def Tc(s:cH)(j:eE s=false):FnP cxY pv0 211 [.agg<|(bV s).map .d] []<|some (.tuple [.nil 1,aj 1],[]):=by
 refine bq [] (fun|_=>[]) tyY DS Tryz.func211 ?_;conv=>whnf
 (refine⟨_,_,oQ s,M ?_⟩)
 rw[j];conv=>whnf
 exact jW rfl rfl rfl
structure eo where
 n:Int
 alg:Int
 deriving DecidableEq
def dH(k:eo):List D:=[.int .i64 k.n,.int .i64 k.alg]
def rB(k:eo):Bool:=decide (k.n>=1)&&(decide (k.n<=1000000)&&(decide (k.alg>=1)&&decide (k.alg<=3)))
def vy(a b:Int):Bool:=decide (a>=0)&&(decide (a<=b)&&decide (b<=20000000))
def AT(a:Int):Bool:=decide (a>=0)&&decide (a<65536)
def sD(a:Int):Int×Int:=if AT a=true then((a+1).tmod 65536,0)else(0,1)
def oW(s:cH):List eo:=s.data.map λd=>⟨d.n,d.m⟩
def dJ(s:cH):List eo×Int:=if eE s=true then(if s.type=7 then(oW s,0)else([],12))else([],1)
def PT:Sig:=⟨[],0,0,0,0,0⟩
def Ey(s:cH)(ai:Bs)(k:eo)(a b:Int):Bool:=(rB k&&(vy a b&&(aR ai&& !nc ai)))&&(eE s&&(bD s.name ai).1)
def CH(s:cH)(ai:Bs)(k:eo)(a b:Int):Sig:=⟨ai,k.n,k.alg,a,b,Yn (setBytes s) ai k.n k.alg a b⟩
def vk(s:cH)(ai:Bs)(k:eo)(a b:Int):Sig×Int:=if Ey s ai k a b=true then(CH s ai k a b,0)else(PT,1)
def Ev{s:cH}(h:eE s=true):s.name.length<=60/\(∀d∈s.data,d.text.length<=60)/\s.data.length<=8:=by
 refine⟨gE<|yc h,λd H=>?_,tj h⟩;unfold eE at h;simp only[aK,aG]at h;obtain⟨i,G,rfl⟩:=List.getElem_of_mem H;have:=h.2 i<|List.mem_range.2 G;have h1:s.data[i-1]? =some s.data[i-1]:=ao (by omega);rw[xp (ao G) h1]at this;have D:iA (nO s.type) s.data[i]=true:=by
  unfold rQ at this;simp only[Bool.not_eq_true',Bool.or_eq_false_iff,Bool.not_eq_false']at this;exact this.1
 unfold iA at D;simp only[aK]at D;have j:=D.2;unfold si at j;split at j
 .simp only[aK]at j;exact gE j.1
 .split at j
  .exact gE j
  .split at j
   .unfold jS at j;simp only[aK,decide_eq_true_eq]at j;have:=j.1.1.1.2;omega
   .have:=eq_of_beq j;rw[this];simp
def Sh(s:cH)(h:eE s=true):(setBytes s).length<=10000:=by
 obtain⟨h1,j,H⟩:=Ev h;have:∀(l:List Datum) (_:∀d∈l,d.text.length<=60),(iv l).length<=l.length*77:=by
  intro l;induction l with
  |nil=>intro _;simp[iv]
  |cons d t G =>
   intro h;have h1:=G λd D=>h d<|aZ _ D
   have j:=h d (List.mem_cons_self ..);simp only[iv,List.length_append,JS,List.length_cons];omega
 have I:=this s.data j;simp only[setBytes,List.length_append,iz,List.length_cons,yk,uk,List.length_nil];omega
def BR(k:eo):NQ.Fn cx 175 [.agg<|dH k] (.d<|.bool<|rB k) []:=by
 refine bL bf mixed Tryz.func175 ?_
 repeat' (first
  |(refine aD ?_ ?_<;>intro h)
  |(refine ak rfl ?_;show AV.d (D.bool _)=_;simp only[rB, *, if_true,if_false,aX];done)
  |fail)
def BS(a b:Int):NQ.Fn cx 174 [.int .i64 a,.int .i64 b] (.d<|.bool<|vy a b) []:=by
 refine bL bf mixed Tryz.func174 ?_
 repeat' (first
  |(refine aD ?_ ?_<;>intro h)
  |(refine ak rfl ?_;show AV.d (D.bool _)=_;simp only[vy, *, if_true,if_false,aX];done)
  |fail)
def Gh(a:Int):NQ.Fn cx 167 [.int .i64 a] (.d<|.bool<|AT a) []:=by
 refine bL bf mixed Tryz.func167 ?_
 repeat' (first
  |(refine aD ?_ ?_<;>intro h)
  |(refine ak rfl ?_;show AV.d (D.bool _)=_;simp only[AT, *, if_true,if_false,aX];done)
  |fail)
def Jf(a:Int):NQ.Fn cx 120 [.int .i64 a] (.tuple [.d<|.int .i64 (sD a).1,.d<|.int .i64 (sD a).2]) []:=by
 refine bL bf mixed Tryz.func120 ?_
 (refine⟨_,_,Gh a,M ?_⟩)
 cases h:AT a with
 |false =>
  conv=>whnf
  refine ak rfl ?_;rw[sD,if_neg<|by rw[h];simp];rfl
 |true =>
  conv=>whnf
  refine ak rfl ?_;rw[sD,if_pos h];have:IntKind.i64.wrap (a+1)=a+1:=wrap_i64 (by simp[AT]at h;omega) (by simp[AT]at h;omega);rw[this];rfl
def Ua(s:cH)(J:s.data.length<=100000):NQ.Fn cx 168 [.agg<|bV s] (.d<|.slice 2<|(oW s).map dH) []:=by
 refine bL bf mixed Tryz.func168 ?_;refine⟨by omega,.inl rfl,by omega,by(simp only[au];omega),by(simp only[au];omega),M ?_⟩
 refine ⟨Nat, fun k => ⟨[(1, .ptr 1 0), (3, .own 9), (11, .d<|.slice 3<|s.data.map aS), (12, aj ((s.data.map aS).length : Int)), (13, aj k)],
     [(1,.box<|(bV s).map .d),(9,.row 31 2 (((oW s).take k++List.replicate (s.data.length-k) (⟨0,0⟩:eo)).map dH) true)]⟩,
  λk=>k<=s.data.length,λk=>s.data.length-k,⟨0,by omega,aI.keep ⟨ae,ae,ae,ae,ae,trivial⟩ ⟨ae,⟨by(show some (Blk.row _ _ (List.replicate ((s.data.map aS).length:Int).toNat _) true)=some (Blk.row _ _ _ true);simp[dH];done),rfl⟩,trivial⟩⟩,λk I=>M ?_⟩
 refine aD ?_ ?_<;>intro h1
 .have D:k<s.data.length:=by simp at h1;omega
  obtain⟨d,j⟩:∃d,s.data[k]? =some d:=⟨_,ao D⟩
  refine⟨aB k,aS d,aL j,M ?_⟩
  have G:(oW s)[k]? =some ⟨d.n,d.m⟩:=by rw[oW,bc,j];rfl
  refine⟨aB k,by(simp[oW];omega),M ?_⟩
  have H:(((oW s).take k++List.replicate (s.data.length-k) (⟨0,0⟩:eo)).map dH)[k]? =some (dH ⟨0,0⟩):=by
   rw[bc,cL<|by simp[oW];omega,List.getElem?_replicate,if_pos<|by simp[oW];omega];rfl
  refine⟨_,H,M ?_⟩
  refine⟨k+1,D,by(show s.data.length-(k+1)<s.data.length-k;omega),aI.keep ⟨ae,ae,ae,ae,⟨bj<|by omega,rfl⟩,trivial⟩ ⟨ae,⟨?_,rfl⟩,trivial⟩⟩;show some (Blk.row _ _ (List.set _ k<|dH ⟨d.n,d.m⟩) true)=some (Blk.row _ _ _ true)
  rw[<- List.map_set,PK G<|by simp[oW]]
 .obtain rfl:k=s.data.length:=by simp at h1;omega
  refine ak rfl ?_;rw[List.take_of_length_le<|by simp[oW],Nat.sub_self,List.replicate_zero,List.append_nil];rfl
def Aa(s:cH):NQ.Fn cx 121 [.agg<|bV s] (.tuple [.d<|.slice 2<|(dJ s).1.map dH,.d<|.int .i64 (dJ s).2]) []:=by
 refine bL bf mixed Tryz.func121 ?_
 (refine⟨_,_,oQ s,M ?_⟩)
 cases j:eE s with
 |false =>
  conv=>whnf
  refine ak rfl ?_;rw[dJ,if_neg<|by rw[j];simp];rfl
 |true =>
  conv=>whnf
  refine aD ?_ ?_<;>intro h1
  .refine ak rfl ?_;rw[dJ,if_pos j,if_neg<|by simpa using h1];rfl
  . (refine⟨_,_,Ua s<|by have:=tj j;omega,M ?_⟩)
    refine ak rfl ?_;rw[dJ,if_pos j,if_pos<|by simpa using h1];rfl
noncomputable def Wu:Cx:={cx with chg:=ja [(211,9)]}
def acA:bC Wu:=bf
def aan:Wu.P.follows .mixedOrders=true:=mixed
def aaE(s:cH)(ai:Bs)(k:eo)(a b:Int):NQ.Fn cx 179 [.agg<|bV s,.str ai,.agg<|dH k,.int .i64 a,.int .i64 b] (.tuple [.agg<|(oJ (vk s ai k a b).1).map .d,.d<|.int .i64 (vk s ai k a b).2]) []:=by
 refine kF (pv:=pv0) (cx:=Wu) ?_;refine bq [] (fun|3=>[33333]|9=>[90050]|_=>[]) acA aan Tryz.func179 ?_;have G:Ey s ai k a b=false->vk s ai k a b=(PT,1):=λh=>by rw[vk,if_neg<|by rw[h];simp]
 have j:Ey s ai k a b=((rB k&&(vy a b&&(aR ai&& !nc ai)))&&(eE s&&(bD s.name ai).1)):=rfl;conv=>whnf
 (refine⟨_,_,BR k,M ?_⟩)
 obtain⟨I,H⟩:∃q,rB k=q:=⟨_,rfl⟩
 rw[H]at j ⊢;cases I with
 |false =>
  conv=>whnf
  exact jW rfl rfl (by rw[G j];rfl)
 |true =>
 conv=>whnf
 (refine⟨_,_,BS a b,M ?_⟩)
 obtain⟨I,H⟩:∃q,vy a b=q:=⟨_,rfl⟩
 rw[H]at j ⊢;cases I with
 |false =>
  conv=>whnf
  exact jW rfl rfl (by rw[G j];rfl)
 |true =>
 conv=>whnf
 (refine⟨_,_,ng ai,M ?_⟩)
 obtain⟨I,K⟩:∃q,aR ai=q:=⟨_,rfl⟩
 rw[K]at j ⊢;cases I with
 |false =>
  conv=>whnf
  exact jW rfl rfl (by rw[G j];rfl)
 |true =>
 conv=>whnf
 (refine⟨_,_,PN ai,M ?_⟩)
 obtain⟨I,H⟩:∃q,nc ai=q:=⟨_,rfl⟩
 rw[H]at j ⊢;cases I with
 |true =>
  conv=>whnf
  exact jW rfl rfl (by rw[G j];rfl)
 |false =>
 conv=>whnf
 obtain⟨I,D⟩:∃q,eE s=q:=⟨_,rfl⟩
 cases I with
 |false =>
  refine⟨[5,7,10],_,Tc s D,⟨rfl,rfl,rfl⟩,M ?_⟩
  refine aN<|M ?_
  exact jW rfl rfl (by rw[G<|by rw[j,D];rfl];rfl)
 |true =>
 obtain⟨V,U,W⟩:=Ev D;refine⟨[5,7,10],_,Td s D (by omega) (λd T=>by have:=U d T;omega)<|by omega,⟨rfl,rfl,rfl⟩,M ?_⟩
 refine aN<|M ?_
 (refine⟨_,_,pd s.name ai,M ?_⟩)
 obtain⟨I,J⟩:∃q,(bD s.name ai).1=q:=⟨_,rfl⟩
 rw[J]at ⊢;cases I with
 |false =>
  conv=>whnf
  exact jW rfl rfl (by rw[G<|by rw[j,D,J];rfl];rfl)
 |true =>
 conv=>whnf
 have ss:vk s ai k a b=(CH s ai k a b,0):=by rw[vk,if_pos<|by rw[j,D,J];rfl]
 have N:=abK (setBytes s) ai k.n k.alg a b (by have:=Sh s D;omega) (by have:=gE K;omega)
 repeat' (first
  |(refine bJ<|M ?_)
  |(refine⟨_,_,N,M ?_⟩)
  |exact jW rfl rfl (by rw[ss];rfl)
  |fail)
def sq(ag:Bs)(s:Signed):Bool:=(s.set.type==2)&&(s.set.name != ag)
def oI(ag:Bs)(l:List Signed):List<|Bs×D:=l.foldl (λm s=>if sq ag s=true then cy s.set.name (.bool true) m else m) []
def iF(ag:Bs)(l:List Signed)(n:Bs):Bool:=l.any λs=>sq ag s&&(s.set.name==n)
def GA(ag:Bs)(l:List Signed)(s:Signed):oI ag (l++[s])=if sq ag s=true then cy s.set.name (.bool true) (oI ag l)else oI ag l:=by
 unfold oI;rw[List.foldl_append];rfl
def aaG{α:Type}{p:List α->Prop}(h0:p [])(h1:∀l x,p l->p (l++[x])):∀l,p l:=λl=>by
 have:∀n (l:List α),l.length=n->p l:=by
  intro n;induction n with
  |zero=>intro l j;rw[List.eq_nil_of_length_eq_zero j];exact h0
  |succ n G =>
   intro l j;have D:l≠[]:=λe=>by rw[e]at j;cases j
   rw[<- List.dropLast_concat_getLast D];exact h1 _ _ (G _<|by rw[List.length_dropLast];omega)
 exact this _ l rfl
def Tm(ag n:Bs)(l:List Signed):bH n (oI ag l)=if iF ag l n=true then some (.bool true)else none:=by
 induction l using aaG with
 |h0=>rfl
 |h1 l s D =>
  rw[GA];have e:iF ag (l++[s]) n=(iF ag l n||(sq ag s&&(s.set.name==n))):=by simp[iF]
  rw[e];by_cases h:sq ag s=true
  .rw[if_pos h,tk,D,h];by_cases j:s.set.name=n
   .rw[if_pos j.symm];simp[j]
   .rw[if_neg λe=>j e.symm];have:(s.set.name==n)=false:=by simpa using j
    rw[this];simp
  .rw[if_neg h,D];have h:sq ag s=false:=by simpa using h
   rw[h];simp
def iQ(j:Bs->Bool)(cut:Bs)(s:Signed):Bs:=if j s.set.name=true then s.set.name else if (!(cut==[]))=true then(if (bD s.set.name cut).1=true then cut else[])else cut
def zN(cut:Bs)(s:Signed):Bool:=(cut==[])||((s.set.type != 2)&&(s.set.type != 1))
def oX(j:Bs->Bool):Bs->List Signed->List Bool
 |_,[]=>[]
 |cut,s::t=>zN (iQ j cut s) s::oX j (iQ j cut s) t
def nG(z:ax):List Bool:=oX (iF z.ag z.af) [] z.af
def sc(j:Bs->Bool):∀(cut:Bs) (l:List Signed),(oX j cut l).length=l.length
 |_,[]=>rfl
 |cut,s::t=>by simp[oX,sc j _ t]
def PJ{α:Type}(acc:List α)(x y:α){k n:Nat}(h:acc.length=k)(j:k<n):(acc++List.replicate (n-k) x).set k y=(acc++[y])++List.replicate (n-(k+1)) x:=by
 rw[List.set_append_right _ _<|by omega,h,Nat.sub_self,show n-k=(n-(k+1))+1 by omega,List.replicate_succ,List.set_cons_zero,List.append_assoc];rfl
def RB(z:ax)(hl:z.af.length<=100000):NQ.Fn cx 178 [.agg<|aV z] (.d<|.slice 1<|(nG z).map lX) []:=by
 refine bL bf mixed Tryz.func178 ?_;refine⟨Nat,λk=>⟨[(1,.ptr 1 0),(3,.omap 12),(14,.d<|.slice 5<|z.af.map an),(15,aj ((z.af.map an).length:Int)),(16,aj k)],[(1,.box<|(aV z).map .d),(12,.smap<|oI z.ag<|z.af.take k)]⟩,
  λk=>k<=z.af.length,λk=>z.af.length-k,⟨0,by omega,aI.keep⟩,λk hk=>M ?_⟩
 refine aD ?_ ?_<;>intro h1
 .have G:k<z.af.length:=by simp at h1;omega
  obtain⟨s,H⟩:∃s,z.af[k]? =some s:=⟨_,ao G⟩
  refine⟨aB k,an s,aL H,M ?_⟩
  have hm:oI z.ag (z.af.take<|k+1)=if sq z.ag s=true then cy s.set.name (.bool true) (oI z.ag<|z.af.take k)else oI z.ag<|z.af.take k:=by rw[cj H,GA]
  have again:∀st,aI cx st ⟨[(1,.ptr 1 0),(3,.omap 12),(14,.d<|.slice 5<|z.af.map an),(15,aj ((z.af.map an).length:Int)),(16,aj ((k+1:Nat):Int))],[(1,.box<|(aV z).map .d),(12,.smap<|oI z.ag<|z.af.take<|k+1)]⟩ ->
   ∃y:Nat,y<=z.af.length/\z.af.length-y<z.af.length-k/\aI cx st ⟨[(1,.ptr 1 0),(3,.omap 12),(14,.d<|.slice 5<|z.af.map an),(15,aj ((z.af.map an).length:Int)),(16,aj y)],[(1,.box<|(aV z).map .d),(12,.smap<|oI z.ag<|z.af.take y)]⟩:=λst Y=>⟨k+1,G,by omega,Y⟩
  rw[hm]at again
  (refine aD ?_ ?_<;>intro h)
  .have V:=h
   (refine aD ?_ ?_<;>intro h)
   .rw[if_pos<|by rw[sq,V];exact h]at again;exact again _<|aI.keep
   .rw[if_neg<|by rw[sq,V,gq];show ¬(!(s.set.name==z.ag))=true;rw[h];simp]at again;exact again _<|aI.keep
  .rw[if_neg<|by rw[sq];show ¬((s.set.type==2)&&_)=true;rw[show(s.set.type==2)=false from h];simp]at again;exact again _<|aI.keep
 .obtain rfl:k=z.af.length:=by simp at h1;omega
  refine⟨by omega,.inl rfl,by omega,by(simp only[au];omega),by(simp only[au];omega),M ?_⟩
  refine⟨(Nat×Bs)×List Bool,λx=>⟨[(3,.omap 12),(6,.own 40),(7,.d<|.str x.1.2),(42,.d<|.slice 5<|z.af.map an),(43,aj ((z.af.map an).length:Int)),(44,aj x.1.1)],[(1,.box<|(aV z).map .d),(12,.smap<|oI z.ag z.af),(40,.row 4 1 ((x.2++List.replicate (z.af.length-x.1.1) false).map lX) true)]⟩,
   λx=>x.1.1<=z.af.length/\x.2.length=x.1.1/\x.2++oX (iF z.ag z.af) x.1.2 (z.af.drop x.1.1)=nG z,λx=>z.af.length-x.1.1,
   ⟨((0,[]),[]),⟨Nat.zero_le _,rfl,rfl⟩,aI.keep ⟨ae,ae,ae,ae,ae,ae,trivial⟩ ⟨ae,⟨by(show some (Blk.smap<|oI z.ag<|z.af.take z.af.length)=some (Blk.smap _);rw[List.take_length]),rfl⟩,⟨by(show some (Blk.row _ _ (List.replicate ((z.af.map an).length:Int).toNat _) true)=some (Blk.row _ _ _ true);simp[lX];done),rfl⟩,trivial⟩⟩,?_⟩
  rintro⟨⟨k,cut⟩,acc⟩ ⟨hk,Z,N⟩;simp only at hk Z N;conv=>whnf
  refine aD ?_ ?_<;>intro h1
  .have G:k<z.af.length:=by simp at h1;omega
   obtain⟨s,H⟩:∃s,z.af[k]? =some s:=⟨_,ao G⟩
   rw[drop_cons H,oX]at N;refine⟨aB k,an s,aL H,M ?_⟩
   obtain⟨r,K⟩:∃r,bH s.set.name (oI z.ag z.af)=r:=⟨_,rfl⟩
   rw[K];rw[Tm]at K;have again:∀c b,iQ (iF z.ag z.af) cut s=c->zN c s=b-> ∀st,aI cx st ⟨[(3,.omap 12),(6,.own 40),(7,.d<|.str c),(42,.d<|.slice 5<|z.af.map an),(43,aj ((z.af.map an).length:Int)),(44,aj ((k+1:Nat):Int))],[(1,.box<|(aV z).map .d),(12,.smap<|oI z.ag z.af),(40,.row 4 1 ((acc++[b]++List.replicate (z.af.length-(k+1)) false).map lX) true)]⟩ ->
    ∃y:(Nat×Bs)×List Bool,(y.1.1<=z.af.length/\y.2.length=y.1.1/\y.2++oX (iF z.ag z.af) y.1.2 (z.af.drop y.1.1)=nG z)/\z.af.length-y.1.1<z.af.length-k/\aI cx st ⟨[(3,.omap 12),(6,.own 40),(7,.d<|.str y.1.2),(42,.d<|.slice 5<|z.af.map an),(43,aj ((z.af.map an).length:Int)),(44,aj y.1.1)],[(1,.box<|(aV z).map .d),(12,.smap<|oI z.ag z.af),(40,.row 4 1 ((y.2++List.replicate (z.af.length-y.1.1) false).map lX) true)]⟩:=by
    rintro c b rfl rfl st Y;exact⟨((k+1,_),acc++[_]),⟨G,by(simp;omega),by(rw[<- N,List.append_assoc];rfl)⟩,by(show z.af.length-(k+1)<z.af.length-k;omega),Y⟩
   have T:((acc++List.replicate (z.af.length-k) false).map lX)[k]? =some [D.bool false]:=by
    rw[bc,cL<|by omega,List.getElem?_replicate,if_pos<|by omega];rfl
   have U:k<((acc++List.replicate (z.af.length-k) false).map lX).length:=by simp;omega
   have j:∀b,some (Blk.row 4 1 (((acc++List.replicate (z.af.length-k) false).map lX).set k [D.bool b]) true)=some (Blk.row 4 1 ((acc++[b]++List.replicate (z.af.length-(k+1)) false).map lX) true):=λb=>by
    rw[show[D.bool b]=lX b from rfl, <- List.map_set,PJ acc false b Z G]
   cases I:iF z.ag z.af s.set.name with
   |true =>
    rw[if_pos I]at K;subst K;have X:iQ (iF z.ag z.af) cut s=s.set.name:=by rw[iQ,if_pos I]
    have again:=again s.set.name;conv=>whnf
    repeat' (first
     |(refine aD ?_ ?_<;>intro h)
     |(refine⟨aB k,U,M ?_⟩)
     |(refine⟨_,T,M ?_⟩)
     |exact again _ X (by(simp only[zN, *, if_true,if_false,aX];done)) _<|aI.keep ⟨ae,ae,ae,ae,ae,⟨bj (k:=k)<|by omega,rfl⟩,trivial⟩ ⟨ae,ae,⟨j _,rfl⟩,trivial⟩
     |fail)
   |false =>
    rw[if_neg<|by rw[I];simp]at K;subst K;have J:¬iF z.ag z.af s.set.name=true:=by rw[I];simp
    have n1:(!(cut==[]))=true->(bD s.set.name cut).1=true->iQ (iF z.ag z.af) cut s=cut:=λh1 W=>by rw[iQ,if_neg J,if_pos h1,if_pos W]
    have n2:(!(cut==[]))=true->(bD s.set.name cut).1=false->iQ (iF z.ag z.af) cut s=[]:=λh1 W=>by rw[iQ,if_neg J,if_pos h1,if_neg<|by rw[W];simp]
    have n3:(!(cut==[]))=false->iQ (iF z.ag z.af) cut s=cut:=λh1=>by rw[iQ,if_neg J,if_neg<|by rw[h1];simp]
    clear J;conv=>whnf
    repeat' (first
     |(refine aD ?_ ?_<;>intro h)
     |(refine⟨_,_,pd s.set.name cut,M ?_⟩)
     |(refine⟨aB k,U,M ?_⟩)
     |(refine⟨_,T,M ?_⟩)
     |exact again cut _ (n1 (by assumption)<|by simpa using (by assumption:(!(bD s.set.name cut).1)=false)) (by simp only[zN, *, if_true,if_false,aX];done) _<|aI.keep ⟨ae,ae,ae,ae,ae,⟨bj (k:=k)<|by omega,rfl⟩,trivial⟩ ⟨ae,ae,⟨j _,rfl⟩,trivial⟩
     |exact again [] true (n2 (by assumption)<|by simpa using (by assumption:(!(bD s.set.name cut).1)=true)) rfl _<|aI.keep ⟨ae,ae,ae,ae,ae,⟨bj (k:=k)<|by omega,rfl⟩,trivial⟩ ⟨ae,ae,⟨j _,rfl⟩,trivial⟩
     |exact again cut _ (n3<|by assumption) (by simp only[zN, *, if_true,if_false,aX];done) _<|aI.keep ⟨ae,ae,ae,ae,ae,⟨bj (k:=k)<|by omega,rfl⟩,trivial⟩ ⟨ae,ae,⟨j _,rfl⟩,trivial⟩
     |fail)
  .obtain rfl:k=z.af.length:=by simp at h1;omega
   rw[List.drop_length,oX,List.append_nil]at N;refine ak rfl ?_;rw[<- N,Nat.sub_self,List.replicate_zero,List.append_nil];rfl
def Fj(a b:eo):Int:=dI a.n b.n
def abh:List D->Int
 | .int _ n::_=>n
 |_=>0
def YL(x y:List D):Int:=dI (abh x)<|abh y
def OU(l:List eo):mU Fj l:=mU.key (λz=>z.n) λx _ y _=>by unfold Fj dI;split<;>(try split)<;>omega
def UT(l:List eo):iS YL (l.map dH)=(iS Fj l).map dH:=Hq dH Fj YL l λx _ y _=>rfl
def pa(l:List eo):List eo:=iS Fj l
def EI(l:List eo):(pa l).Perm l:=tm<|OU l
def tN(z:ax)(keys:List eo)(a b:Int):Bool:= !((decide ((keys.length:Int)<1)||decide ((keys.length:Int)>6))|| !vy a b|| !aW z)
def Cn(l:List eo)(i:Nat):Bool:=match l[i-1]?, l[i]? with|some p,some k=>decide ((i:Int)>0)&&(p.n==k.n)|_,_=>false
def DB(l:List eo):Bool:=(List.range l.length).any<|Cn l
def Ez(ag:Bs)(keys:List eo)(a b:Int)(own:Bool)(s:Signed):Signed:=⟨s.set,if own=true then keys.map (λk=>CH s.set ag k a b)else[]⟩
def jA(ag:Bs)(keys:List eo)(a b:Int):List Bool->List Signed->List Signed
 |o::os,s::t=>Ez ag keys a b o s::jA ag keys a b os t
 |_,_=>[]
def mY(z:ax)(keys:List eo)(a b:Int):ax:=⟨z.ag,jA z.ag keys a b (nG z) z.af⟩
def iW(z:ax)(keys:List eo)(a b:Int):ax×Int :=
 if tN z keys a b=false then(jZ,1)
 else if keys.all rB=false then(jZ,1)
 else if DB (pa keys)=true then(jZ,5)
 else(mY z (pa keys) a b,0)
def Zm(a b:eo):NQ.Fn cx 177 [.agg<|dH a,.agg<|dH b] (aj<|Fj a b) []:=by
 refine bL bf mixed Tryz.func177 ?_
 (refine⟨_,_,nk a.n b.n,M ?_⟩)
 exact ak rfl rfl
def US(l:List eo)(I:l.length<=100000)(fl:Bool):FnR cx 176 false 31 2 (l.map dH) fl [.fn 177 [] []]<|(pa l).map dH:=by
 unfold pa;rw[<- UT];exact Lr (cx:=cx) (ρ:=Tryz.BO) Tryz.aaH (k:=2) Tryz.isAgg31 Tryz.sizeOf31 ⟨_,Tryz.func176,by kernel_rfl,rfl⟩
  (λx j y D=>by
   obtain⟨a,G,rfl⟩:=List.mem_map.1 j;obtain⟨b,H,rfl⟩:=List.mem_map.1 D;exact Zm a b) (enters_of Tryz.func177 (by kernel_rfl) rfl) ((OU l).map λx _ y _=>rfl) (by rw[au];omega)
noncomputable def JQ:Cx:={cx with chg:=ja [(176,2)]}
def acq:bC JQ:=bf
def aae:JQ.P.follows .mixedOrders=true:=mixed
def SN(z:ax)(keys:List eo)(a b:Int)(hl:keys.length<=100000):NQ.Fn JQ 123 [.agg<|aV z,.slice 2<|keys.map dH,.int .i64 a,.int .i64 b] (.tuple [.agg<|(aV (iW z keys a b).1).map .d,.d<|.int .i64 (iW z keys a b).2]) []:=by
 refine gr (fun|10=>[88888]|34=>[300]|_=>[]) acq aae Tryz.func123 ?_;have T:tN z keys a b=false->iW z keys a b=(jZ,1):=λh=>by rw[iW,if_pos h]
 have G:tN z keys a b= !((decide ((keys.length:Int)<1)||decide ((keys.length:Int)>6))|| !vy a b|| !aW z):=rfl;conv=>whnf
 refine aD ?_ ?_<;>intro h1
 .exact ak rfl (by rw[T<|by rw[G];simp only[au]at h1;simp only[h1,if_true,if_false,aX]];rfl)
 refine aD ?_ ?_<;>intro X
 .exact ak rfl (by rw[T<|by rw[G];simp only[au]at X;simp only[X,if_true,if_false,aX]];rfl)
 simp only[au]at h1 X;rw[h1,X]at G
 (refine⟨_,_,BS a b,M ?_⟩)
 obtain⟨q1,J⟩:∃q,vy a b=q:=⟨_,rfl⟩
 rw[J]at G ⊢;cases q1 with
 |false =>
  conv=>whnf
  exact ak rfl (by rw[T<|by rw[G];simp only[if_true,if_false,aX]];rfl)
 |true =>
 conv=>whnf
 (refine⟨_,_,jI z,M ?_⟩)
 obtain⟨q1,hv⟩:∃q,aW z=q:=⟨_,rfl⟩
 rw[hv]at G ⊢;cases q1 with
 |false =>
  conv=>whnf
  exact ak rfl (by rw[T<|by rw[G];simp only[if_true,if_false,aX]];rfl)
 |true =>
 conv=>whnf
 have hlen:1<=keys.length/\keys.length<=6:=by simp at h1 X;omega
 clear T h1 X;have ss:tN z keys a b=true:=by rw[G];rfl
 refine⟨Nat,λk=>⟨[(1,.d<|.slice 2<|keys.map dH),(2,aj a),(3,aj b),(4,.ptr 4 0),(8,.ptr 8 0),(44,.d<|.slice 2<|keys.map dH),(45,aj ((keys.map dH).length:Int)),(46,aj k)],[(4,.box<|(aV z).map .d),(8,.box [.d<|.str [],.nil 5])]⟩,
  λk=>k<=keys.length/\(keys.take k).all rB=true,λk=>keys.length-k,⟨0,⟨by omega,rfl⟩,aI.keep⟩,?_⟩
 rintro k ⟨hk,I⟩;conv=>whnf
 refine aD ?_ ?_<;>intro h1
 .have D:k<keys.length:=by simp at h1;omega
  obtain⟨q,N⟩:∃q,keys[k]? =some q:=⟨_,ao D⟩
  refine⟨aB k,dH q,aL N,M ?_⟩
  (refine⟨_,_,BR q,M ?_⟩)
  obtain⟨q1,J⟩:∃x,rB q=x:=⟨_,rfl⟩
  rw[J];cases q1 with
  |false =>
   conv=>whnf
   have hx:keys.all rB=false:=by
    rw[List.all_eq_false];exact⟨q,aw N,by rw[J];simp⟩
   exact ak rfl (by rw[iW,if_neg<|by rw[ss];simp,if_pos hx];rfl)
  |true =>
   conv=>whnf
   exact⟨k+1,⟨D,by rw[cj N,List.all_append,I];simp[J]⟩,by(show keys.length-(k+1)<keys.length-k;omega),aI.keep⟩
 obtain rfl:k=keys.length:=by simp at h1;omega
 rw[List.take_length]at I;refine⟨by omega,.inl rfl,by omega,by(simp only[au];omega),by(simp only[au];omega),M ?_⟩
 refine⟨by simp,M ?_⟩
 refine⟨_,US keys (by omega) _,M ?_⟩
 have hz:(pa keys).length=keys.length:=(EI keys).length_eq;have H:iW z keys a b=if DB (pa keys)=true then(jZ,5)else(mY z (pa keys) a b,0):=by rw[iW,if_neg<|by rw[ss];simp,if_neg<|by rw[I];simp]
 have Y:∀k∈pa keys,rB k=true:=λk hk=>aG.1 I k<|(EI keys).mem_iff.1 hk
 generalize pa keys=K at hz H Y ⊢
 refine⟨Nat,λk=>⟨[(2,aj a),(3,aj b),(4,.ptr 4 0),(8,.ptr 8 0),(12,.own 57),(63,.own 57),(64,aj ((K.map dH).length:Int)),(65,aj k)],[(4,.box<|(aV z).map .d),(8,.box [.d<|.str [],.nil 5]),(57,.row 31 2<|K.map dH)]⟩,
  λk=>k<=K.length/\(List.range k).any (Cn K)=false,λk=>K.length-k,⟨0,⟨by omega,rfl⟩,aI.keep⟩,?_⟩
 rintro k ⟨hk,hd⟩;conv=>whnf
 refine aD ?_ ?_<;>intro h1
 .have D:k<K.length:=by simp at h1;omega
  obtain⟨q,N⟩:∃q,K[k]? =some q:=⟨_,ao D⟩
  refine⟨aB k,by(show k<_;rw[au];exact D),M ?_⟩
  refine⟨dH q,aL N,M ?_⟩
  have U:Cn K k=true->iW z keys a b=(jZ,5):=λh=>by
   rw[H,if_pos (show DB K=true from List.any_eq_true.2 ⟨k,List.mem_range.2 D,h⟩)]
  have again:Cn K k=false->(List.range<|k+1).any (Cn K)=false:=λh=>by rw[List.range_succ,List.any_append,hd];simp[h]
  obtain⟨p,hi⟩:∃p,K[k-1]? =some p:=⟨_,ao<|by omega⟩
  have hs:Cn K k=(decide ((k:Int)>0)&&(p.n==q.n)):=by rw[Cn,hi,N]
  rw[hs]at U again
  repeat' (first
   |(refine bJ<|M ?_)
   |(refine aD ?_ ?_<;>intro h)
   |(refine⟨(po (by assumption)<|by omega).1,by(show(IntKind.i64.wrap<|(k:Int)-1).toNat<_;rw[(po (by assumption)<|by omega).2,au];omega),M ?_⟩)
   |(refine⟨dH p,nB (by assumption) (by omega) hi,M ?_⟩)
   |exact ak rfl (by rw[U<|by simp only[*, if_true,if_false,aX];done];rfl)
   |exact⟨k+1,⟨D,again<|by simp only[*, if_true,if_false,aX];done⟩,by(show K.length-(k+1)<K.length-k;omega),aI.keep⟩
   |fail)
 obtain rfl:k=K.length:=by simp at h1;omega
 have ho:=bt hv;rw[H,if_neg<|by rw[DB,hd];simp];clear H hd G ss I
 (refine⟨_,_,RB z<|by have:=ho.few;omega,M ?_⟩)
 (refine bJ<|M ?_)
 have ht:=ho.few;refine⟨by omega,.inl rfl,by omega,by(simp only[au];omega),by(simp only[au];omega),M ?_⟩
 have hy:(nG z).length=z.af.length:=sc _ _ _;have hA:=jY hv;refine⟨Nat×List Signed,λx=>⟨[(2,aj a),(3,aj b),(4,.ptr 4 0),(8,.ptr 8 0),(12,.own 57),(15,.d<|.slice 1<|(nG z).map lX),(16,.ptr 16 0),(95,.d<|.slice 5<|z.af.map an),(96,aj ((z.af.map an).length:Int)),(97,aj x.1)],[(4,.box<|(aV z).map .d),(8,.box [.d<|.str [],.nil 5]),(16,.box [.d<|.str z.ag,.own 92]),(57,.row 31 2<|K.map dH),(92,.row 75 5 ((x.2++List.replicate (z.af.length-x.1) mG).map an) true)]⟩,
  λx=>x.1<=z.af.length/\x.2.length=x.1/\x.2++jA z.ag K a b ((nG z).drop x.1) (z.af.drop x.1)=(mY z K a b).af,λx=>z.af.length-x.1,
  ⟨(0,[]),⟨Nat.zero_le _,rfl,rfl⟩,aI.keep ⟨ae,ae,ae,ae,ae,ae,ae,ae,ae,ae,trivial⟩ ⟨ae,ae,ae,ae,⟨by(show some (Blk.row _ _ (List.replicate ((z.af.map an).length:Int).toNat _) true)=some (Blk.row _ _ _ true);simp[an,mG];done),rfl⟩,trivial⟩⟩,?_⟩
 rintro⟨k,acc⟩ ⟨hk,hg,hc⟩;simp only at hk hg hc;conv=>whnf
 refine aD ?_ ?_<;>intro h1
 .have D:k<z.af.length:=by simp at h1;omega
  obtain⟨s,W⟩:∃s,z.af[k]? =some s:=⟨_,ao D⟩
  obtain⟨o,hh⟩:∃o,(nG z)[k]? =some o:=⟨_,ao<|by omega⟩
  rw[drop_cons W,drop_cons hh,jA]at hc;have hB:=(hA s<|aw W).1;refine⟨aB k,an s,aL W,M ?_⟩
  (refine⟨_,_,ni _<|by rw[au];omega,M ?_⟩)
  refine⟨aB k,lX o,aL hh,M ?_⟩
  have hq:((acc++List.replicate (z.af.length-k) mG).map an)[k]? =some (an mG):=by
   rw[bc,cL<|by omega,List.getElem?_replicate,if_pos<|by omega];rfl
  have hr:k<((acc++List.replicate (z.af.length-k) mG).map an).length:=by simp;omega
  have Z:∀t:Signed,some (Blk.row 75 5 (((acc++List.replicate (z.af.length-k) mG).map an).set k<|an t) true)=some (Blk.row 75 5 ((acc++[t]++List.replicate (z.af.length-(k+1)) mG).map an) true):=λt=>by
   rw[<- List.map_set,PJ acc mG t hg D]
  have again:∀t,Ez z.ag K a b o s=t-> ∀st,aI JQ st ⟨[(2,aj a),(3,aj b),(4,.ptr 4 0),(8,.ptr 8 0),(12,.own 57),(15,.d<|.slice 1<|(nG z).map lX),(16,.ptr 16 0),(95,.d<|.slice 5<|z.af.map an),(96,aj ((z.af.map an).length:Int)),(97,aj ((k+1:Nat):Int))],[(4,.box<|(aV z).map .d),(8,.box [.d<|.str [],.nil 5]),(16,.box [.d<|.str z.ag,.own 92]),(57,.row 31 2<|K.map dH),(92,.row 75 5 ((acc++[t]++List.replicate (z.af.length-(k+1)) mG).map an) true)]⟩ ->
   ∃y:Nat×List Signed,(y.1<=z.af.length/\y.2.length=y.1/\y.2++jA z.ag K a b ((nG z).drop y.1) (z.af.drop y.1)=(mY z K a b).af)/\z.af.length-y.1<z.af.length-k/\aI JQ st ⟨[(2,aj a),(3,aj b),(4,.ptr 4 0),(8,.ptr 8 0),(12,.own 57),(15,.d<|.slice 1<|(nG z).map lX),(16,.ptr 16 0),(95,.d<|.slice 5<|z.af.map an),(96,aj ((z.af.map an).length:Int)),(97,aj y.1)],[(4,.box<|(aV z).map .d),(8,.box [.d<|.str [],.nil 5]),(16,.box [.d<|.str z.ag,.own 92]),(57,.row 31 2<|K.map dH),(92,.row 75 5 ((y.2++List.replicate (z.af.length-y.1) mG).map an) true)]⟩:=by
   rintro t rfl st hw;exact⟨(k+1,acc++[_]),⟨D,by(simp;omega),by(rw[<- hc,List.append_assoc];rfl)⟩,by(show z.af.length-(k+1)<z.af.length-k;omega),hw⟩
  cases o with
  |false =>
   conv=>whnf
   refine⟨aB k,hr,M ?_⟩
   refine⟨_,hq,M ?_⟩
   exact again ⟨s.set,[]⟩ rfl _<|aI.keep ⟨ae,ae,ae,ae,ae,ae,ae,ae,ae,⟨bj (k:=k)<|by omega,rfl⟩,trivial⟩ ⟨ae,ae,ae,ae,⟨Z ⟨s.set,[]⟩,rfl⟩,trivial⟩
  |true =>
   conv=>whnf
   refine⟨Nat,λj=>⟨[(2,aj a),(3,aj b),(4,.ptr 4 0),(8,.ptr 8 0),(12,.own 57),(15,.d<|.slice 1<|(nG z).map lX),(16,.ptr 16 0),(17,aj k),(19,.ptr 19 0),(95,.d<|.slice 5<|z.af.map an),(96,aj ((z.af.map an).length:Int)),(97,aj k),(115,.own 57),(116,aj ((K.map dH).length:Int)),(117,aj j)],[(4,.box<|(aV z).map .d),(8,.box [.d<|.str [],.nil 5]),(16,.box [.d<|.str z.ag,.own 92]),(19,.box [.d<|.str s.set.name,aj s.set.type,aj s.set.aJ,.d<|.slice 3<|s.set.data.map aS,.own 300]),(57,.row 31 2<|K.map dH),(92,.row 75 5 ((acc++List.replicate (z.af.length-k) mG).map an) true),(300,.row 167 6<|((K.take j).map λq=>CH s.set z.ag q a b).map oJ)]⟩,
    λj=>j<=K.length,λj=>K.length-j,
    ⟨0,Nat.zero_le _,(aI.jy 19 4 300 6 [.d<|.str s.set.name,aj s.set.type,aj s.set.aJ,.d<|.slice 3<|s.set.data.map aS,.nil 6] 167 6 rfl rfl rfl<|by decide).trans<|aI.keep⟩,?_⟩
   intro j hj;conv=>whnf
   refine aD ?_ ?_<;>intro X
   .have V:j<K.length:=by simp at X;omega
    obtain⟨q,hf⟩:∃q,K[j]? =some q:=⟨_,ao V⟩
    refine⟨aB j,by(show j<_;rw[au];exact V),M ?_⟩
    refine⟨dH q,aL hf,M ?_⟩
    have ha:vk s.set z.ag q a b=(CH s.set z.ag q a b,0):=by
     rw[vk,if_pos];rw[Ey,Y q<|aw hf,J,ho.ag,ho.Yq,ho.set s<|aw W,ho.under s<|aw W];rfl
    have fS:=aaE s.set z.ag q a b;rw[ha]at fS
    (refine⟨_,_,fS,M ?_⟩)
    refine⟨by(show(List.map oJ _).length+1<=_;rw[au,au,List.length_take];omega),by(show((List.map oJ _).length+1)*56<=_;rw[au,au,List.length_take];omega),M ?_⟩
    exact⟨j+1,V,by(show K.length-(j+1)<K.length-j;omega),aI.keep ⟨ae,ae,ae,ae,ae,ae,ae,ae,ae,ae,ae,ae,ae,ae,⟨bj<|by omega,rfl⟩,trivial⟩ ⟨ae,ae,ae,ae,ae,ae,⟨by(show some (Blk.row _ _<|_++_)=some (Blk.row _ _ _);rw[cj hf,List.map_append,List.map_append];rfl),rfl⟩,trivial⟩⟩
   .obtain rfl:j=K.length:=by simp at X;omega
    refine⟨aB k,hr,M ?_⟩
    refine⟨_,hq,M ?_⟩
    have e:Ez z.ag K a b true s=⟨s.set,(K.take K.length).map λq=>CH s.set z.ag q a b⟩:=by rw[Ez,if_pos rfl,List.take_length]
    exact again _ e _<|aI.keep ⟨ae,ae,ae,ae,ae,ae,ae,ae,ae,⟨bj (k:=k)<|by omega,rfl⟩,trivial⟩ ⟨ae,ae,ae,ae,⟨Z ⟨s.set,(K.take K.length).map λq=>CH s.set z.ag q a b⟩,rfl⟩,trivial⟩
 .obtain rfl:k=z.af.length:=by simp at h1;omega
  rw[List.drop_length,List.drop_of_length_le<|by omega,show jA z.ag K a b [] []=[]from rfl,List.append_nil]at hc;refine ak rfl ?_;rw[Nat.sub_self,List.replicate_zero,List.append_nil,hc];rfl
def wR:cH:=⟨[],0,0,[]⟩
def isF(s:Bs)(kind:Int)(x:Signed):Bool:=(x.set.name==s)&&(x.set.type==kind)
def mX(z:ax)(s:Bs)(kind:Int):Option Signed:=z.af.find?<|isF s kind
def wfR(z:ax)(s:Bs)(kind:Int):cH×Bool:=match mX z s kind with|some x=>(x.set,true)|none=>(wR,false)
def nu{α:Type}(p:α->Bool):∀l:List α,(match l.findIdx? p with|some k=>l[k]? |none=>none)=l.find? p
 |[]=>rfl
 |x::t=>by
  rw[List.findIdx?_cons,List.find?_cons];cases h:p x with
  |true=>rfl
  |false =>
   have j:=nu p t;cases D:t.findIdx? p with
   |none=>rw[D]at j;simpa using j
   |some k=>rw[D]at j;simpa using j
def fj(z:ax):Int:=match mX z z.ag 4 with|some x=>(match x.set.data with|d::_=>d.n|[]=>0)|none=>0
def JB(b p:al):Int:=if dI (fj b.ai) (fj p.ai)=0 then dI p.host b.host else dI (fj b.ai)<|fj p.ai
def qc(ag:Bs)(b:Option<|Nat×al)(i:Nat)(p:al):Option<|Nat×al:=if (p.ai.ag != ag)=true then b else match b with|none=>some (i,p)|some (j,q)=>if JB q p<0 then some (i,p)else some (j,q)
def nV(ag:Bs):Option (Nat×al)->Nat->List al->Option (Nat×al)
 |b,_,[]=>b
 |b,i,p::t=>nV ag (qc ag b i p) (i+1) t
def xl(j:List al)(ag:Bs):Option<|Nat×al:=nV ag none 0 j
def cq(j:List al)(ag:Bs):ax×Bool:=match xl j ag with|some (_,p)=>(p.ai,true)|none=>(jZ,false)
def Aj(x:Signed)(s:Bs)(kind:Int):NQ.Fn cx 111 [.agg<|an x,.ptr [.str s],.ptr [.int .i64 kind]] (.d<|.bool<|isF s kind x) []:=by
 refine bL bf mixed Tryz.func111 ?_
 repeat' (first
  |(refine aD ?_ ?_<;>intro h)
  |(refine ak rfl ?_;show AV.d (D.bool _)=_;simp only[isF, *, if_true,if_false,aX];done)
  |fail)
def Ct(l:List Signed)(p:Signed->Bool)(x y:D)(Z:l.length<=100000)(X:∀s∈l,NQ.Fn cx 111 [.agg<|an s,x,y] (.d<|.bool<|p s) []) :
 NQ.Fn cx 110 [.slice 5<|l.map an,.fn 111 [] [x,y]] (aj (match l.findIdx? p with|some k=>(k:Int)|none=> -1)) []:=by
 refine bL bf mixed Tryz.func110 ?_;refine⟨Nat,λk=>⟨[(0,.d<|.slice 5<|l.map an),(1,.d<|.fn 111 [] [x,y]),(7,aj ((l.map an).length:Int)),(8,aj k)],[]⟩,λk=>k<=l.length/\ ∀j y,j<k->l[j]? =some y->p y=false,λk=>l.length-k,
  ⟨0,⟨by omega,λj y h=>by omega⟩,aI.keep⟩,λk U=>?_⟩
 obtain⟨U,G⟩:=U;conv=>whnf
 refine aD ?_ ?_<;>intro h1
 .have I:k<l.length:=by simp at h1;omega
  obtain⟨s,J⟩:∃s,l[k]? =some s:=⟨_,ao I⟩
  refine⟨aB k,an s,aL J,M ?_⟩
  (refine⟨_,_,X s<|aw J,M ?_⟩)
  refine aD ?_ ?_<;>intro N
  .refine ak rfl ?_;have:l.findIdx? p=some k:=by
    rw[List.findIdx?_eq_some_iff_getElem];obtain⟨V,W⟩:=aA.1 J;refine⟨V,by rw[W];exact N,λj H=>?_⟩;have:=G j (l[j]) H (ao<|by omega);rw[this];decide
   rw[this];rfl
  .refine⟨k+1,⟨I,λj y H K=>?_⟩,by(show l.length-(k+1)<l.length-k;omega),aI.keep⟩;rcases Nat.lt_succ_iff_lt_or_eq.1 H with H|rfl
   .exact G j y H K
   .rw[J]at K;cases K;exact N
 .obtain rfl:k=l.length:=by simp at h1;omega
  refine ak rfl ?_;have:l.findIdx? p=none:=by
   rw[List.findIdx?_eq_none_iff];intro x Y;obtain⟨i,T⟩:=cO Y;exact G i x (aA.1 T).1 T
  rw[this];rfl
def pC(z:ax)(s:Bs)(kind:Int)(J:z.af.length<=100000):NQ.Fn cx 60 [.agg<|aV z,.str s,.int .i64 kind] (.tuple [.agg<|(bV (wfR z s kind).1).map .d,.d<|.bool (wfR z s kind).2]) []:=by
 refine bL bf mixed Tryz.func60 ?_
 (refine⟨_,Ct z.af (isF s kind) _ _ J λx _=>Aj x s kind,rfl,M ?_⟩)
 have D:=nu (isF s kind) z.af;have j:wfR z s kind=match z.af.find? (isF s kind)with|some x=>(x.set,true)|none=>(wR,false):=rfl
 cases G:z.af.findIdx? (isF s kind)with
 |none =>
  rw[G]at D;rw[<- D]at j;conv=>whnf
  exact ak rfl (by rw[j];rfl)
 |some k =>
  rw[G]at D;obtain⟨H,_⟩:=List.findIdx?_eq_some_iff_getElem.1 G;obtain⟨x,I⟩:∃x,z.af[k]? =some x:=⟨_,ao H⟩
  rw[<- D]at j;simp only[I]at j;conv=>whnf
  refine⟨aB k,an x,aL I,M ?_⟩
  exact ak rfl (by rw[j];rfl)
def Eu(z:ax)(I:z.af.length<=100000)(J:∀s∈z.af,eE s.set=true):NQ.Fn cx 59 [.agg<|aV z] (aj<|fj z) []:=by
 refine bL bf mixed Tryz.func59 ?_
 (refine⟨_,_,pC z z.ag 4 I,M ?_⟩)
 cases D:mX z z.ag 4 with
 |none =>
  have e:wfR z z.ag 4=(wR,false):=by rw[wfR,D]
  rw[e];conv=>whnf
  exact ak rfl (by rw[fj,D];rfl)
 |some x =>
  have e:wfR z z.ag 4=(x.set,true):=by rw[wfR,D]
  rw[e];conv=>whnf
  have K:=List.mem_of_find?_eq_some D;obtain⟨N,H⟩:=vi<|J x K;obtain⟨d,t,j⟩:∃d t,x.set.data=d::t:=by
   cases G:x.set.data with
   |nil=>rw[G]at H;simp at H
   |cons d t=>exact⟨d,t,rfl⟩
  refine⟨by decide,aS d,by rw[j];rfl,M ?_⟩
  have e:fj z=d.n:=by simp only[fj,D,j]
  exact ak rfl (by rw[e];rfl)
abbrev wc(l:List Signed):Blk:= .row 75 5<|l.map an
noncomputable def cxW:Cx:={cx with chg:=ja []}
def tyW:bC cxW:=bf
def wG:cxW.P.follows .mixedOrders=true:=mixed
structure bB where
 w:aQ
 since:Int
 aT:Int
 ai:ax
 aJ:Int
 got:List (Bs×List Int)
 aF:List al
 bu:List (List al)
def dK(l:List al):List D:=[.slice 3<|l.map aP]
def je(g:List<|Bs×List Int):List<|Bs×D:=g.map λp=>(p.1,.slice 1<|p.2.map dq)
def XG(v:Bool)(o:bB):List AV:=match v with
 |true=>(bF o.w).map .d++[aj o.since,aj o.aT,.d<|.str o.ai.ag,.d<|.slice 5<|o.ai.af.map an,aj o.aJ,.omap 90032,.own 90040,.own 90041]
 |false=>(bF o.w).map .d++[aj 0,aj 0,.d<|.str [],.nil 5,aj 0,.d .jg,.nil 3,.nil 1]
def iG(w:aQ):List AV:=(bF w).map .d++[.undef,.undef,.undef,.undef,.undef,.undef,.undef,.undef]
def PB(a b:Int):nF [a,b]=if a=0 then b else a:=by
 unfold nF;by_cases h:a=0
 .subst h;by_cases h' :b=0
  .subst h';rfl
  .rw[List.find?_cons_of_neg<|by simp,List.find?_cons_of_pos<|by simpa using h'];rfl
 .rw[List.find?_cons_of_pos<|by simpa using h,if_neg h];rfl
def kC(w:aQ)(ag:Bs)(hv:∀p∈w.ah,aW p.ai=true)(hn:w.ah.length<=100000) :
 FnP cxW pv0 33 [.agg<|iG w,.d<|.str ag] [] (some (.tuple [.agg<|(aV (cq w.ah ag).1).map .d,.d<|.bool (cq w.ah ag).2],[])):=by
 refine bq [] (fun|0=>[33333]|_=>[]) tyW wG Tryz.func33 ?_;have T:∀p∈w.ah,p.ai.af.length<=100000/\ ∀s∈p.ai.af,eE s.set=true:=λp hp=>by
  have ho:=bt<|hv p hp;exact⟨by have:=ho.few;omega,ho.set⟩
 have step:∀b k p,w.ah[k]? =some p->nV ag b k (w.ah.drop k)=nV ag (qc ag b k p) (k+1) (w.ah.drop<|k+1):=λb k p hp=>by rw[drop_cons hp];rfl
 conv=>whnf
 refine⟨Nat×Option (Nat×al),λx=>⟨[(1,.d<|.str ag),(2,.ptr 2 0),(4,.ptr 4 0),(6,aj (match x.2 with|some (j,_)=>(j:Int)|none=> -1)),(12,.d<|.slice 3<|w.ah.map aP),(13,aj ((w.ah.map aP).length:Int)),(14,aj x.1)],[(2,.box<|iG w),(4,.box [.d<|.str [],.nil 5])]⟩,
  λx=>x.1<=w.ah.length/\nV ag x.2 x.1 (w.ah.drop x.1)=xl w.ah ag/\ ∀j q,x.2=some (j,q)->w.ah[j]? =some q/\j<x.1,λx=>w.ah.length-x.1,
  ⟨(0,none),⟨Nat.zero_le _,rfl,λj q h=>by cases h⟩,aq.keep⟩,?_⟩
 rintro⟨k,b⟩ ⟨hk,D,V⟩;simp only at hk D V;conv=>whnf
 refine aD ?_ ?_<;>intro h1
 .have I:k<w.ah.length:=by simp at h1;omega
  obtain⟨p,hp⟩:∃p,w.ah[k]? =some p:=⟨_,ao I⟩
  have J:=T p<|aw hp;rw[step b k p hp]at D;unfold qc at D;refine⟨aB k,aP p,aL hp,M ?_⟩
  have again:∀G,nV ag G (k+1) (w.ah.drop<|k+1)=xl w.ah ag->(∀j q,G =some (j,q)->w.ah[j]? =some q/\j<k+1)-> ∀st,aq cxW [] st ⟨[(1,.d<|.str ag),(2,.ptr 2 0),(4,.ptr 4 0),(6,aj (match G with|some (j,_)=>(j:Int)|none=> -1)),(12,.d<|.slice 3<|w.ah.map aP),(13,aj ((w.ah.map aP).length:Int)),(14,aj ((k+1:Nat):Int))],[(2,.box<|iG w),(4,.box [.d<|.str [],.nil 5])]⟩ ->
   ∃y:Nat×Option (Nat×al),(y.1<=w.ah.length/\nV ag y.2 y.1 (w.ah.drop y.1)=xl w.ah ag/\ ∀j q,y.2=some (j,q)->w.ah[j]? =some q/\j<y.1)/\w.ah.length-y.1<w.ah.length-k/\aq cxW [] st ⟨[(1,.d<|.str ag),(2,.ptr 2 0),(4,.ptr 4 0),(6,aj (match y.2 with|some (j,_)=>(j:Int)|none=> -1)),(12,.d<|.slice 3<|w.ah.map aP),(13,aj ((w.ah.map aP).length:Int)),(14,aj y.1)],[(2,.box<|iG w),(4,.box [.d<|.str [],.nil 5])]⟩:=λG W e2 st hw=>⟨(k+1,G),⟨I,W,e2⟩,by(show w.ah.length-(k+1)<w.ah.length-k;omega),hw⟩
  refine aD ?_ ?_<;>intro h2
  .rw[if_pos (show(p.ai.ag != ag)=true from h2)]at D;exact again b D (λj q e=>by obtain⟨W,e2⟩:=V j q e;exact⟨W,by omega⟩) _<|aq.keep
  rw[if_neg<|show ¬(p.ai.ag != ag)=true by(show ¬(!(p.ai.ag==ag))=true);rw[h2];simp]at D;cases b with
  |none =>
   conv=>whnf
   exact again (some (k,p)) D (λj q e=>by cases e;exact⟨hp,Nat.lt_succ_self _⟩) _<|aq.keep
  |some Z =>
  obtain⟨j,q⟩:=Z;obtain⟨K,X⟩:=V j q rfl;have N:=T q<|aw K;dsimp only at D;conv=>whnf
  refine⟨aB j,aP q,aL K,M ?_⟩
  have Y:nF [dI (fj q.ai)<|fj p.ai,dI p.host q.host]=JB q p:=PB _ _;have fO:=IG [dI (fj q.ai)<|fj p.ai,dI p.host q.host] (by simp);rw[Y]at fO
  (refine bJ<|M ?_)
  (refine⟨_,_,Eu q.ai N.1 N.2,M ?_⟩)
  (refine⟨_,_,Eu p.ai J.1 J.2,M ?_⟩)
  (refine⟨_,_,nk (fj q.ai)<|fj p.ai,M ?_⟩)
  (refine⟨_,_,nk p.host q.host,M ?_⟩)
  (refine⟨_,fO,by kernel_rfl,M ?_⟩)
  refine aD ?_ ?_<;>intro h3
  .rw[if_pos<|by simpa using h3]at D;exact again (some (k,p)) D (λj q e=>by cases e;exact⟨hp,Nat.lt_succ_self _⟩) _<|aq.keep
  .rw[if_neg<|by simpa using h3]at D;exact again (some (j,q)) D (λj' q' e=>by cases e;exact⟨K,by omega⟩) _<|aq.keep
 .obtain rfl:k=w.ah.length:=by simp at h1;omega
  rw[List.drop_length,nV]at D;have H:xl w.ah ag=b:=D.symm;cases b with
  |none =>
   have U:cq w.ah ag=(jZ,false):=by rw[cq,H]
   conv=>whnf
   exact ck rfl (by rw[U];rfl) (by rw[U];rfl)
  |some Z =>
   obtain⟨j,q⟩:=Z;obtain⟨K,X⟩:=V j q rfl;have U:cq w.ah ag=(q.ai,true):=by rw[cq,H]
   conv=>whnf
   refine⟨aB j,aP q,aL K,M ?_⟩
   exact ck rfl (by rw[U];rfl) (by rw[U];rfl)
def ur(s:Bs):Bool:=aR s&&(s != [42])&& !(Go.Lib.hasPrefix s [42,46])
def FD(k:eo):Bool:=decide (1<=k.n)&&decide (k.n<=1000000)&&decide (1<=k.alg)&&decide (k.alg<=3)
def cr(w:aQ)(n:Int):Bool:=decide (0<=n)&&decide (n<(w.ar.length:Int))
def nameAt(w:aQ)(n:Int):Bs:=match w.ar[n.toNat]? with|some h=>h.name|none=>[]
def nw(w:aQ):List Bs->List Int->Bool
 |_,[]=>true
 |j,n::t=>cr w n&& !(j.contains<|nameAt w n)&&nw w (j++[nameAt w n]) t
def iP(w:aQ)(l:List Int):Bool:= !(decide ((l.length:Int)<1)||decide ((l.length:Int)>8))&&nw w [] l
def tg(l:List Bs):List<|Bs×D:=l.map λa=>(a,.bool true)
def th(a:Bs):∀l:List Bs,bH a (tg l)=if l.contains a=true then some (.bool true)else none
 |[]=>rfl
 |x::l=>by
  show(if a=x then _ else bH a<|tg l)=_
  by_cases h:a=x
  .subst h;simp
  .rw[if_neg h,th a l,List.contains_cons,show(a==x)=false by simpa using h,iI]
def UL{a:Bs}{l:List Bs}(h:l.contains a=false):cy a (.bool true) (tg l)=tg (l++[a]):=by
 rw[ov<|by rw[th,h];rfl];simp[tg]
def zR(a b:Signed):Int:=if (dE a.set.name b.set.name).1=0 then dI a.set.type b.set.type else(dE a.set.name b.set.name).1
def oo(z:ax)(s:Bs)(kind:Int)(data:List Datum):Bool:=(wfR z s kind).2&&((wfR z s kind).1.data==data)
def pV(s a:Bs):NQ.Fn cx 84 [.str s,.str a] (.d<|.bool (bD s a).1) []:=by
 refine bL bf mixed Tryz.func84 ?_
 (refine⟨_,_,pd s a,M ?_⟩)
 have j:(bD s a).1=true->(bD s a).2=0:=by
  unfold bD;split
  .intro _;rfl
  .intro h;cases h
 repeat' (first|(refine aD ?_ ?_<;>intro h)|fail)
 all_goals (refine ak rfl ?_;show AV.d (D.bool _)=AV.d (D.bool _);congr 2;try simp_all)
def aa5(s:Bs):NQ.Fn cx 91 [.str s,.str [42,46]] (.d<|.bool<|Go.Lib.hasPrefix s [42,46]) []:=by
 refine eH ⟨_,Tryz.func91,by kernel_rfl,by kernel_rfl⟩ rfl λw vs _ G j=>?_
 obtain⟨b,H,rfl⟩:=fh<|j 0 _ rfl;obtain⟨c,I,D⟩:=fh<|j 1 _ rfl;rw[vv G,H,I];refine(Tryz.strings_HasPrefix _ _ _).mono ?_;rintro e w' ⟨rfl,rfl⟩;rw[D];exact⟨_,rfl,Below.refl _ _,.gy _⟩
def plain_fn(s:Bs):NQ.Fn cx 47 [.str s] (.d<|.bool<|ur s) []:=by
 refine bL bf mixed Tryz.func47 ?_
 repeat' (first|(refine⟨_,_,ng s,M ?_⟩)|(refine⟨_,_,aa5 s,M ?_⟩)|(refine aD ?_ ?_<;>intro h)|fail)
 all_goals (refine ak rfl ?_;show AV.d (D.bool _)=AV.d (D.bool _);congr 2;unfold ur;simp_all)
def Pm(k:eo):NQ.Fn cx 46 [.agg<|dH k] (.d<|.bool<|FD k) []:=by
 refine bL bf mixed Tryz.func46 ?_
 repeat' (first|(refine aD ?_ ?_<;>intro h)|fail)
 all_goals (refine ak rfl ?_;show AV.d (D.bool _)=AV.d (D.bool _);congr 2;unfold FD;(try simp_all);(try omega))
def GP(w:aQ)(n:Int):NQ.Fn cx 48 [.agg<|bF w,.int .i64 n] (.d<|.bool<|cr w n) []:=by
 refine bL bf mixed Tryz.func48 ?_
 repeat' (first|(refine aD ?_ ?_<;>intro h)|fail)
 all_goals (refine ak rfl ?_;show AV.d (D.bool _)=AV.d (D.bool _);congr 2;unfold cr;(try simp_all);(try omega))
def KI(a b:Datum):NQ.Fn cx 75 [.agg<|aS a,.agg<|aS b] (aj<|gX a b) []:=by
 refine bL bf mixed Tryz.func75 ?_
 repeat' (first|(refine bJ<|M ?_)|(refine⟨_,_,yP _ _,M ?_⟩)|(refine⟨_,_,nk _ _,M ?_⟩)|fail)
 refine⟨_,IG [_,_,_]<|by simp,rfl,M ?_⟩
 refine ak rfl ?_;rw[PC];rfl
def DL(a b:Signed):NQ.Fn cx 117 [.agg<|an a,.agg<|an b] (aj<|zR a b) []:=by
 refine bL bf mixed Tryz.func117 ?_
 repeat' (first|(refine bJ<|M ?_)|(refine⟨_,_,wS _ _,M ?_⟩)|(refine⟨_,_,nk _ _,M ?_⟩)|fail)
 refine⟨_,IG [_,_]<|by simp,rfl,M ?_⟩
 refine ak rfl ?_;rw[PB];rfl
def Tx(a b:List Datum)(V:a.length<=200000):NQ.Fn cx 90 [.slice 3<|a.map aS,.slice 3<|b.map aS] (.d<|.bool<|a==b) []:=by
 refine bL bf mixed Tryz.func90 ?_;by_cases I:a.length=b.length
 .rw[show(((a.map aS).length:Int) != ((b.map aS).length:Int))=false by simp[I]];conv=>whnf
  refine⟨Nat,λk=>⟨[(0,.d<|.slice 3<|a.map aS),(1,.d<|.slice 3<|b.map aS),(12,aj ((a.map aS).length:Int)),(13,aj k)],[]⟩,λk=>k<=a.length/\a.take k=b.take k,λk=>a.length-k,
   ⟨0,⟨Nat.zero_le _,rfl⟩,aI.keep⟩,λk ⟨N,G⟩=>?_⟩
  dsimp only at N G ⊢;conv=>whnf
  refine aD ?_ ?_<;>intro h1
  .have D:k<a.length:=by simpa using h1
   obtain⟨x,H⟩:∃x,a[k]? =some x:=⟨_,ao D⟩
   obtain⟨y,K⟩:∃y,b[k]? =some y:=⟨_,ao<|by omega⟩
   (refine bJ<|M ?_)
   refine⟨aB k,aS x,aL H,M ?_⟩
   refine⟨aB k,aS y,aL K,M ?_⟩
   have J:(x.text==y.text&&(x.n==y.n&&(x.m==y.m&&true)))=(x==y):=by
    rw[Bool.eq_iff_iff];simp only[aK,beq_iff_eq,and_true];constructor
    .rintro⟨h1,T,U⟩;cases x;cases y;simp_all
    .rintro rfl;exact⟨rfl,rfl,rfl⟩
   rw[J];by_cases j:x=y
   .rw[show(x==y)=true by simp[j]];conv=>whnf
    refine⟨k+1,⟨D,?_⟩,by(show a.length-(k+1)<a.length-k;omega),aI.keep⟩;rw[cj H,cj K,G,j]
   .rw[show(x==y)=false by simp[j]];conv=>whnf
    refine ak rfl ?_;have:(a==b)=false:=by
     rw[beq_eq_false_iff_ne];intro e;rw[e,K]at H;exact j (by cases H;rfl)
    rw[this];rfl
  .obtain rfl:k=a.length:=by simp at h1;omega
   refine ak rfl ?_;rw[List.take_length,I,List.take_length]at G;rw[G,beq_self_eq_true];rfl
 .rw[show(((a.map aS).length:Int) != ((b.map aS).length:Int))=true by simp;omega];conv=>whnf
  refine ak rfl ?_;have:(a==b)=false:=by
   rw[beq_eq_false_iff_ne];rintro rfl;exact I rfl
  rw[this];rfl
def uU(z:ax)(s:Bs)(kind:Int)(data:List Datum)(D:z.af.length<=100000)(j:(wfR z s kind).1.data.length<=200000):NQ.Fn cx 89 [.agg<|aV z,.str s,.int .i64 kind,.slice 3<|data.map aS] (.d<|.bool<|oo z s kind data) []:=by
 refine bL bf mixed Tryz.func89 ?_
 (refine⟨_,_,pC z s kind D,M ?_⟩)
 refine aD ?_ ?_<;>intro h1
 . (refine⟨_,_,Tx _ data j,M ?_⟩)
   exact ak rfl (by unfold oo;rw[h1];rfl)
 .exact ak rfl (by unfold oo;rw[h1];rfl)
def zA(w:aQ)(l:List Int):NQ.Fn cx 41 [.agg<|bF w,.slice 1<|l.map dq] (.d<|.bool<|iP w l) []:=by
 refine bL bf mixed Tryz.func41 ?_;refine aD ?_ ?_<;>intro h0
 .exact ak rfl (by unfold iP;simp only[au]at h0;rw[h0];rfl)
 refine aD ?_ ?_<;>intro j
 .exact ak rfl (by unfold iP;simp only[au]at h0 j;rw[h0,j];rfl)
 have W:iP w l=nw w [] l:=by unfold iP;simp only[au]at h0 j;rw[h0,j];rfl
 rw[W];have V:l.length<=8:=by simp only[au]at j;have:=of_decide_eq_false j;omega
 refine⟨Nat,λk=>⟨[(2,.ptr 2 0),(5,.omap 16),(17,.d<|.slice 1<|l.map dq),(18,aj ((l.map dq).length:Int)),(19,aj k)],[(2,.box<|(bF w).map .d),(16,.smap<|tg<|(l.take k).map<|nameAt w)]⟩,
  λk=>k<=l.length/\nw w ((l.take k).map<|nameAt w) (l.drop k)=nw w [] l,λk=>l.length-k,⟨0,⟨Nat.zero_le _,rfl⟩,aI.keep⟩,λk ⟨X,G⟩=>?_⟩
 dsimp only at X G ⊢;conv=>whnf
 refine aD ?_ ?_<;>intro h1
 .have J:k<l.length:=by simpa using h1
  obtain⟨n,K⟩:∃x,l[k]? =some x:=⟨_,ao J⟩
  rw[drop_cons K,nw]at G;refine⟨aB k,dq n,aL K,M ?_⟩
  (refine⟨_,_,GP w n,M ?_⟩)
  refine aD ?_ ?_<;>intro N
  .exact ak rfl (by rw[<- G];simp at N;rw[N];rfl)
  .have U:cr w n=true:=by simpa using N
   have D :=U;unfold cr at D;simp only[aK,decide_eq_true_eq]at D;obtain⟨h,T⟩:∃h,w.ar[n.toNat]? =some h:=⟨_,ao<|by omega⟩
   have H:nameAt w n=h.name:=by unfold nameAt;rw[T]
   rw[H]at G;refine⟨D.1,gG h,aL T,M ?_⟩
   cases I:((l.take k).map<|nameAt w).contains h.name with
   |true =>
    rw[show bH h.name (tg<|(l.take k).map<|nameAt w)=some (.bool true) by rw[th,I];rfl];conv=>whnf
    exact ak rfl (by rw[<- G,I,vA,kW,pW];rfl)
   |false =>
    rw[show bH h.name (tg<|(l.take k).map<|nameAt w)=none by rw[th,I];rfl];conv=>whnf
    refine⟨D.1,gG h,aL T,M ?_⟩
    refine⟨k+1,⟨J,?_⟩,by(show l.length-(k+1)<l.length-k;omega),aI.keep ⟨ae,ae,ae,ae,⟨bj<|by omega,rfl⟩,trivial⟩ ⟨ae,⟨?_,rfl⟩,trivial⟩⟩
    .rw[<- G,U,I,cj K,List.map_append];simp[H]
    .show some (Blk.smap<|cy h.name (.bool true)<|tg<|(l.take k).map<|nameAt w)=_
     rw[UL I,cj K,List.map_append];simp[H]
 .obtain rfl:k=l.length:=by simp at h1;omega
  exact ak rfl (by rw[<- G,List.drop_length];rfl)
def ff(host:Int)(ag:Bs)(p:al):Bool:=decide (p.host=host)&&(p.ai.ag==ag)
def tL(ag:Bs)(x:Bs×Bool)(p:al):Bs×Bool:=if ((p.ai.ag != ag)&&(bD ag p.ai.ag).1&&(!x.2||(bD p.ai.ag x.1).1))=true then(p.ai.ag,true)else x
def lC(ag:Bs)(j:List al):Bs×Bool:=j.foldl (tL ag) ([],false)
def dQ(j:List al)(ag:Bs):ax×Bool:=if (lC ag j).2=true then(if (wfR (cq j (lC ag j).1).1 ag 2).2=true then((cq j (lC ag j).1).1,true)else(jZ,false))else(jZ,false)
def YN:List D->Datum
 |[.str t,.int _ n,.int _ m]=>⟨t,n,m⟩
 |_=>⟨[],0,0⟩
def ab4(x y:List D):Int:=gX (YN x)<|YN y
def lg(a b:Datum):gX a b=lex Go.Lib.compareBytes (lex dI dI) (a.text,a.n,a.m) (b.text,b.n,b.m):=rfl
def Bm:jP gX:=by
 have h:=FH dz<|FH xj xj;refine⟨λa b=>?_,λa b=>?_,λa b=>?_,λa b c=>?_⟩
 .rw[lg];exact h.range _ _
 .rw[lg,h.zero];cases a;cases b;simp
 .rw[lg,lg];exact h.lE _ _
 .rw[lg,lg,lg];exact h.lt _ _ _
def jP.ok{α:Type}{c:α->α->Int}(h:jP c)(l:List α):mU c l:=by
 refine⟨λx _=>?_,λx _ y _ z _ h1 j=>?_,λx _ y _ z _ h1 j=>?_⟩
 .rw[(h.zero x x).2 rfl];omega
 .have:=h.Rk h1<|Int.le_of_lt j;exact this
 .have D:=h.lE x y;have G:=h.lE y z;have H:=h.lE x z;have:=h.le_trans (a:=z) (b:=y) (c:=x) (by omega) (by omega);omega
def Qu(l:List Datum):mU gX l:=Bm.ok l
def pT(w:aQ)(n:Int):Datum:=⟨nameAt w n,0,0⟩
def cZ(w:aQ)(l:List Int):List Datum:=iS gX<|l.map<|pT w
def Dc(a:Bs):∀(I:List al) (b:Option<|Nat×al) (i:Nat),(∀j q,b=some (j,q)->q.ai.ag=a) ->
 (∀j q,nV a b i I=some (j,q)->q.ai.ag=a/\(b=some (j,q)\/q∈I))/\(nV a b i I=none->b=none/\ ∀p∈I,p.ai.ag≠a)
 |[],b,i,H=>⟨λj q h=>⟨H j q h,.inl h⟩,λh=>⟨h,λp hp=>by cases hp⟩⟩
 |x::t,b,i,H=>by
  have N:∀j q,qc a b i x=some (j,q)->q.ai.ag=a/\(b=some (j,q)\/q=x):=λj q h=>by
   unfold qc at h;split at h
   .exact⟨H j q h,.inl h⟩
   .rename_i G;have T:x.ai.ag=a:=by simpa using G
    split at h
    .cases h;exact⟨T,.inr rfl⟩
    .rename_i U V;split at h
     .cases h;exact⟨T,.inr rfl⟩
     .cases h;exact⟨H _ _ rfl,.inl rfl⟩
  obtain⟨J,K⟩:=Dc a t (qc a b i x) (i+1) λj q h=>(N j q h).1
  refine⟨λj q h=>?_,λh=>?_⟩
  .obtain⟨h1,D⟩:=J j q h;refine⟨h1,?_⟩;rcases D with D|D
   .rcases (N j q D).2 with h3|rfl
    .exact .inl h3
    .exact .inr (List.mem_cons_self ..)
   .exact .inr<|aZ _ D
  .obtain⟨h1,D⟩:=K h;unfold qc at h1;split at h1
   .rename_i G;exact⟨h1,λp hp=>by
     rcases List.mem_cons.1 hp with rfl|hp
     .simpa using G
     .exact D p hp⟩
   .split at h1
    .cases h1
    .split at h1<;>cases h1
def lj(D:List al)(a:Bs):(∃p∈D,cq D a=(p.ai,true)/\p.ai.ag=a)\/(cq D a=(jZ,false)/\ ∀p∈D,p.ai.ag≠a):=by
 obtain⟨h1,I⟩:=Dc a D none 0 λj q h=>by cases h
 unfold cq xl;cases h:nV a none 0 D with
 |none=>exact .inr ⟨rfl,(I h).2⟩
 |some J =>
  obtain⟨j,q⟩:=J;obtain⟨H,G⟩:=h1 j q h;rcases G with G|G
  .cases G
  .exact .inl ⟨q,G,rfl,H⟩
def Gy{j:List al}(D:∀p∈j,aW p.ai=true)(a:Bs):(cq j a).1.af.length<=100000:=by
 rcases lj j a with ⟨p,hp,h,_⟩|⟨h,_⟩
 .rw[h];have:=(bt<|D p hp).few;(show p.ai.af.length<=100000);omega
 .rw[h];exact Nat.zero_le _
def bX{cx cx' :Cx}(h1:cx'.P=cx.P)(j:cx'.gl=cx.gl){pv:Int->Value}{f:FuncId}{args:List AV}{h:List<|Nat×Blk}{out:Option<|AV×List (Nat×Blk)}(D:FnP cx pv f args h out):FnP cx' pv f args h out:=by
 unfold FnP im jO at *
 rw[h1,j];exact D
noncomputable def cxO:Cx:={cx with chg:=ja [(33,10),(74,2)]}
def tyO:bC cxO:=bf
def DR:cxO.P.follows .mixedOrders=true:=mixed
def uE(w:aQ)(ag:Bs)(U:∀p∈w.ah,aW p.ai=true)(Y:w.ah.length<=100000) :
 FnP cxO pv0 62 [.agg<|iG w,.d<|.str ag] [] (some (.tuple [.agg<|(aV (dQ w.ah ag).1).map .d,.d<|.bool (dQ w.ah ag).2],[])):=by
 refine bq [] (fun|0=>[33333]|11=>[33333]|_=>[]) tyO DR Tryz.func62 ?_;conv=>whnf
 refine⟨Nat×Bs×Bool,λx=>⟨[(1,.d<|.str ag),(2,.ptr 2 0),(4,.ptr 4 0),(6,.d<|.str x.2.1),(7,.d<|.bool x.2.2),(17,.d<|.slice 3<|w.ah.map aP),(18,aj ((w.ah.map aP).length:Int)),(19,aj x.1)],[(2,.box<|iG w),(4,.box [.d<|.str [],.nil 5])]⟩,
  λx=>x.1<=w.ah.length/\x.2=lC ag (w.ah.take x.1),λx=>w.ah.length-x.1,⟨(0,[],false),⟨Nat.zero_le _,rfl⟩,aq.keep (by repeat' (first|exact trivial|refine⟨⟨rfl,rfl⟩,?_⟩))<|by repeat' (first|exact trivial|refine⟨⟨rfl,rfl⟩,?_⟩)⟩,?_⟩
 rintro⟨k,l,b⟩ ⟨X,G⟩;dsimp only at X G;conv=>whnf
 refine eR ?_ ?_<;>intro h1<;>(rw[h1];conv=>whnf)
 .have D:k<w.ah.length:=by simpa using h1
  obtain⟨p,hp⟩:∃x,w.ah[k]? =some x:=⟨_,ao D⟩
  have T:lC ag (w.ah.take<|k+1)=tL ag (l,b) p:=by
   rw[cj hp,G];unfold lC;rw[List.foldl_append];rfl
  have N:((p.ai.ag != ag)&&(bD ag p.ai.ag).1&&(!b||(bD p.ai.ag l).1))=true->(p.ai.ag,true)=lC ag (w.ah.take<|k+1):=λh=>by rw[T,tL,if_pos h]
  have V:((p.ai.ag != ag)&&(bD ag p.ai.ag).1&&(!b||(bD p.ai.ag l).1))=false->(l,b)=lC ag (w.ah.take<|k+1):=λh=>by rw[T,tL,if_neg<|by rw[h];decide]
  refine⟨aB k,aP p,aL hp,M ?_⟩
  have j:(p.ai.ag != ag)= !(p.ai.ag==ag):=rfl
  repeat' (first|(refine⟨_,_,pV ag p.ai.ag,M ?_⟩)|(refine⟨_,_,pV p.ai.ag l,M ?_⟩)|(refine eR ?_ ?_<;>intro h<;>(rw[h];conv=>whnf))|fail)
  all_goals first
   |(refine⟨(k+1,p.ai.ag,true),⟨D,N<|by simp only[j, *, if_true,if_false,aX]⟩,by(show w.ah.length-(k+1)<w.ah.length-k;omega),aq.keep ⟨ae,ae,ae,ae,ae,ae,ae,⟨bj (k:=k)<|by omega,rfl⟩,trivial⟩<|by repeat' (first|exact trivial|refine⟨⟨rfl,rfl⟩,?_⟩)⟩;done)
   |(refine⟨(k+1,l,b),⟨D,V<|by simp only[j, *, if_true,if_false,aX]⟩,by(show w.ah.length-(k+1)<w.ah.length-k;omega),aq.keep ⟨ae,ae,ae,ae,ae,ae,ae,⟨bj (k:=k)<|by omega,rfl⟩,trivial⟩<|by repeat' (first|exact trivial|refine⟨⟨rfl,rfl⟩,?_⟩)⟩;done)
   |(subst_vars;refine⟨(k+1,l,true),⟨D,V<|by simp only[j, *, if_true,if_false,aX]⟩,by(show w.ah.length-(k+1)<w.ah.length-k;omega),aq.keep ⟨ae,ae,ae,ae,ae,ae,ae,⟨bj (k:=k)<|by omega,rfl⟩,trivial⟩<|by repeat' (first|exact trivial|refine⟨⟨rfl,rfl⟩,?_⟩)⟩;done)
 .obtain rfl:k=w.ah.length:=by simp at h1;omega
  rw[List.take_length]at G;have Z:dQ w.ah ag=if b=true then(if (wfR (cq w.ah l).1 ag 2).2=true then((cq w.ah l).1,true)else(jZ,false))else(jZ,false):=by unfold dQ;rw[<- G]
  rw[Z];refine eR ?_ ?_<;>intro H<;>(rw[H];conv=>whnf)
  .have K:b=false:=by simpa using H
   subst K;exact ck rfl rfl rfl (by repeat' (first|exact trivial|refine⟨⟨rfl,rfl⟩,?_⟩))
  have K:b=true:=by simpa using H
  subst K;have W:=bX (cx' :=cxO) rfl rfl<|kC w l U Y;refine⟨[2,4],_,W,⟨rfl,rfl,rfl⟩,M ?_⟩
  refine⟨⟨by kernel_rfl,by kernel_rfl⟩,M ?_⟩
  (refine⟨_,_,pC (cq w.ah l).1 ag 2<|Gy U l,M ?_⟩)
  refine eR ?_ ?_<;>intro I<;>(rw[I];conv=>whnf)
  .have J:(wfR (cq w.ah l).1 ag 2).2=false:=by simpa using I
   rw[J];exact ck rfl rfl rfl (by repeat' (first|exact trivial|refine⟨⟨rfl,rfl⟩,?_⟩))
  .have J:(wfR (cq w.ah l).1 ag 2).2=true:=by simpa using I
   rw[J];exact ck rfl rfl rfl (by repeat' (first|exact trivial|refine⟨⟨rfl,rfl⟩,?_⟩))
def NB(p:al)(host:Int)(ag:Bs):NQ.Fn cx 113 [.agg<|aP p,.ptr [.int .i64 host],.ptr [.str ag]] (.d<|.bool<|ff host ag p) []:=by
 refine bL bf mixed Tryz.func113 ?_
 repeat' (first|(refine aD ?_ ?_<;>intro h)|fail)
 all_goals (refine ak rfl ?_;show AV.d (D.bool _)=AV.d (D.bool _);congr 2;unfold ff;(try simp_all))
def Xc(l:List al)(p:al->Bool)(x y:D)(Z:l.length<=100000)(X:∀s∈l,NQ.Fn cx 113 [.agg<|aP s,x,y] (.d<|.bool<|p s) []) :
 NQ.Fn cx 163 [.slice 3<|l.map aP,.fn 113 [] [x,y]] (aj (match l.findIdx? p with|some k=>(k:Int)|none=> -1)) []:=by
 refine bL bf mixed Tryz.func163 ?_;refine⟨Nat,λk=>⟨[(0,.d<|.slice 3<|l.map aP),(1,.d<|.fn 113 [] [x,y]),(7,aj ((l.map aP).length:Int)),(8,aj k)],[]⟩,λk=>k<=l.length/\ ∀j y,j<k->l[j]? =some y->p y=false,λk=>l.length-k,
  ⟨0,⟨by omega,λj y h=>by omega⟩,aI.keep⟩,λk U=>?_⟩
 obtain⟨U,G⟩:=U;conv=>whnf
 refine aD ?_ ?_<;>intro h1
 .have I:k<l.length:=by simp at h1;omega
  obtain⟨s,J⟩:∃s,l[k]? =some s:=⟨_,ao I⟩
  refine⟨aB k,aP s,aL J,M ?_⟩
  (refine⟨_,_,X s<|aw J,M ?_⟩)
  refine aD ?_ ?_<;>intro N
  .refine ak rfl ?_;have:l.findIdx? p=some k:=by
    rw[List.findIdx?_eq_some_iff_getElem];obtain⟨V,W⟩:=aA.1 J;refine⟨V,by rw[W];exact N,λj H=>?_⟩;have:=G j (l[j]) H (ao<|by omega);rw[this];decide
   rw[this];rfl
  .refine⟨k+1,⟨I,λj y H K=>?_⟩,by(show l.length-(k+1)<l.length-k;omega),aI.keep⟩;rcases Nat.lt_succ_iff_lt_or_eq.1 H with H|rfl
   .exact G j y H K
   .rw[J]at K;cases K;exact N
 .obtain rfl:k=l.length:=by simp at h1;omega
  refine ak rfl ?_;have:l.findIdx? p=none:=by
   rw[List.findIdx?_eq_none_iff];intro x Y;obtain⟨i,T⟩:=cO Y;exact G i x (aA.1 T).1 T
  rw[this];rfl
def Bu{α:Type}(p:α->Bool)(l:List α):decide ((match l.findIdx? p with|some k=>(k:Int)|none=> -1)>=0)=l.any p:=by
 cases h:l.findIdx? p with
 |some k =>
  obtain⟨h1,j,_⟩:=List.findIdx?_eq_some_iff_getElem.1 h;have:l.any p=true:=List.any_eq_true.2 ⟨_,List.getElem_mem h1,j⟩;rw[this,decide_eq_true];exact aB k
 |none =>
  have:l.any p=false:=by
   rw[<- Bool.not_eq_true,List.any_eq_true];rintro⟨x,D,hp⟩;have:=List.findIdx?_eq_none_iff.1 h x D;rw[this]at hp;cases hp
  rw[this];rfl
def VL(l:List al)(p:al->Bool)(x y:D)(G:l.length<=100000)(j:∀s∈l,NQ.Fn cx 113 [.agg<|aP s,x,y] (.d<|.bool<|p s) []) :
 NQ.Fn cx 112 [.slice 3<|l.map aP,.fn 113 [] [x,y]] (.d<|.bool<|l.any p) []:=by
 refine bL bf mixed Tryz.func112 ?_
 (refine⟨_,_,Xc l p x y G j,M ?_⟩)
 refine ak rfl ?_;show AV.d (D.bool<|decide<|(match l.findIdx? p with|some k=>(k:Int)|none=> -1)>=0)=_
 rw[Bu]
def mK(w:aQ)(host:Int)(ag:Bs)(j:w.ah.length<=100000) :
 FnP cxO pv0 63 [.agg<|iG w,aj host,.d<|.str ag] [] (some (.d<|.bool<|w.ah.any<|ff host ag,[])):=by
 refine bq [] (fun|0=>[33333]|_=>[]) tyO DR Tryz.func63 ?_;conv=>whnf
 (refine⟨_,VL w.ah (ff host ag) _ _ j λp _=>NB p host ag,rfl,M ?_⟩)
 exact ck rfl rfl rfl trivial
def Hp(l:List Datum)(I:l.length<=100000)(fl:Bool):FnR cx 74 false 86 3 (l.map aS) fl [.fn 75 [] []]<|(iS gX l).map aS:=by
 rw[<- Hq aS gX ab4 l λx _ y _=>rfl];exact Lr (cx:=cx) (ρ:=Tryz.EG) Tryz.abJ (k:=3) Tryz.isAgg86 Tryz.sizeOf86 ⟨_,Tryz.func74,by kernel_rfl,rfl⟩
  (λx j y D=>by
   obtain⟨a,G,rfl⟩:=List.mem_map.1 j;obtain⟨b,H,rfl⟩:=List.mem_map.1 D;exact KI a b) (enters_of Tryz.func75 (by kernel_rfl) rfl) ((Qu l).map λx _ y _=>rfl) (by rw[au];omega)
def vT(w:aQ)(l:List Int)(T:l.length<=1000)(K:∀n∈l,cr w n=true) :
 FnP cxO pv0 67 [.agg<|iG w,.d<|.slice 1<|l.map dq] [] (some (.d<|.slice 3<|(cZ w l).map aS,[])):=by
 refine bq [] (fun|0=>[33333]|_=>[]) tyO DR Tryz.func67 ?_;conv=>whnf
 refine⟨Nat,λk=>⟨[(2,.ptr 2 0),(5,.own 55),(8,.d<|.slice 1<|l.map dq),(9,aj ((l.map dq).length:Int)),(10,aj k)],[(2,.box<|iG w),(55,.row 86 3<|((l.take k).map<|pT w).map aS)]⟩,λk=>k<=l.length,λk=>l.length-k,
  ⟨0,Nat.zero_le _,(aq.kz 5 55 3 86 3 rfl rfl<|by decide).trans<|aq.keep⟩,λk N=>M ?_⟩
 refine aD ?_ ?_<;>intro h1
 .have D:k<l.length:=by simp at h1;omega
  obtain⟨n,H⟩:∃s,l[k]? =some s:=⟨_,ao D⟩
  have I:=K n<|aw H;unfold cr at I;simp only[aK,decide_eq_true_eq]at I;obtain⟨h,j⟩:∃h,w.ar[n.toNat]? =some h:=⟨_,ao<|by omega⟩
  refine⟨aB k,dq n,aL H,M ?_⟩
  refine⟨I.1,gG h,aL j,M ?_⟩
  have J:((l.take<|k+1).map<|pT w).map aS=((l.take k).map<|pT w).map aS++[[.str h.name,.int .i64 0,.int .i64 0]]:=by
   rw[cj H,List.map_append,List.map_append]
   congr 1
   show[aS<|pT w n]=_
   unfold pT nameAt;rw[j];rfl
  refine⟨by simp;omega,by simp;omega,M ?_⟩
  refine⟨k+1,D,by(show l.length-(k+1)<l.length-k;omega),aq.keep ⟨ae,ae,ae,ae,⟨bj (k:=k)<|by omega,rfl⟩,trivial⟩ ⟨ae,⟨congrArg (λr=>some<|Blk.row 86 3 r) J.symm,rfl⟩,trivial⟩⟩
 .obtain rfl:k=l.length:=by simp at h1;omega
  rw[List.take_length];have G:=λfl=>Hp (l.map<|pT w) (by simp;omega) fl
  rw[show iS gX (l.map<|pT w)=cZ w l from rfl]at G;refine⟨_,G _,?_⟩;generalize cZ w l=U;conv=>whnf
  exact Lh [55] rfl rfl rfl
structure bG where
 kind:Int
 ai:Bs
 name:Bs
 ar:List Int
 key:eo
 deriving DecidableEq
def bw(x:bG):List D:=[.int .i64 x.kind,.str x.ai,.str x.name,.slice 1<|x.ar.map dq,.int .i64 x.key.n,.int .i64 x.key.alg]
def uw(w:aQ)(z:ax)(s:Bs):Bool:= !(!ur s||(s==z.ag)|| !(bD s z.ag).1)&&(!(cq w.ah s).2&&(((gO z s).2.2==0)&& !(gO z s).2.1))
def qq(k:eo):Bool:=(k.n==0)&&((k.alg==0)&&true)
def xT(w:aQ)(l:List Int):Bool:=match l with|[n]=>cr w n|_=>false
def DY{w:aQ}{l:List Int}(h:l.length≠1):xT w l=false:=by
 match l,h with
 |[],_=>rfl
 |[n],h=>exact absurd rfl h
 |_::_::_,_=>rfl
def lr(w:aQ)(x:bG):Bool :=
 if x.kind=1 then(x.name==[])&&qq x.key&&iP w x.ar
 else if x.kind=2 then(x.name==[])&&decide ((x.ar.length:Int)=0)&&FD x.key
 else if x.kind=3 then ur x.name&&qq x.key&&xT w x.ar
 else if x.kind=4 then uw w (cq w.ah x.ai).1 x.name&&iP w x.ar&&FD x.key
 else false
def gD(w:aQ)(x:bG):Bool:= !(!cT w||(x.ai==[46]))&&((cq w.ah x.ai).2&&lr w x)
noncomputable def cxV:Cx:={cx with chg:=ja [(33,10),(49,10)]}
def tyV:bC cxV:=bf
def abq:cxV.P.follows .mixedOrders=true:=mixed
def Oi(w:aQ)(z:ax)(s:Bs)(J:∀p∈w.ah,aW p.ai=true)(I:w.ah.length<=100000) :
 FnP cxO pv0 49 [.agg<|iG w,.agg<|(aV z).map .d,.d<|.str s] [] (some (.d<|.bool<|uw w z s,[])):=by
 refine bq [] (fun|0=>[33333]|3=>[33333]|_=>[]) tyO DR Tryz.func49 ?_;conv=>whnf
 (refine⟨_,_,plain_fn s,M ?_⟩)
 have j:(!ur s||(s==z.ag)|| !(bD s z.ag).1)=true->uw w z s=false:=λh=>by unfold uw;rw[h];rfl
 repeat' (first|(refine⟨_,_,pV s z.ag,M ?_⟩)|(refine aD ?_ ?_<;>intro h)|fail)
 all_goals first
  |exact ck rfl (by rw[j<|by simp only[*, if_true,if_false,aX]];rfl) rfl trivial
  |skip
 have D:(!ur s||(s==z.ag)|| !(bD s z.ag).1)=false:=by simp only[*, if_true,if_false,aX]
 have G:uw w z s=(!(cq w.ah s).2&&(((gO z s).2.2==0)&& !(gO z s).2.1)):=by unfold uw;rw[D];rfl
 rw[G];have H:=bX (cx' :=cxO) rfl rfl<|kC w s J I;refine⟨[3,4],_,H,⟨rfl,rfl,rfl⟩,M ?_⟩
 refine aN<|M ?_
 refine aD ?_ ?_<;>intro K
 .exact ck rfl rfl rfl trivial
 . (refine⟨_,_,Tp z s,M ?_⟩)
   repeat' (first|(refine aD ?_ ?_<;>intro h)|fail)
   all_goals exact ck rfl (by(try simp only[*, if_true,if_false,aX]);rfl) rfl trivial
def sF(w:aQ)(x:bG)(hF:yD w) :
 FnP cxV pv0 18 [.agg<|(bF w).map .d,.agg<|(bw x).map .d] [] (some (.d<|.bool<|gD w x,[])):=by
 refine bq [] (fun|4=>[33333]|16=>[33333]|_=>[]) tyV abq Tryz.func18 ?_;conv=>whnf
 have hn:w.ah.length<=100000:=by have:=hF.ah;omega
 (refine⟨_,_,Af w hF,M ?_⟩)
 have j:(!cT w||(x.ai==[46]))=true->gD w x=false:=λh=>by unfold gD;rw[h];rfl
 repeat' (first|(refine aD ?_ ?_<;>intro h)|fail)
 all_goals first
  |exact ck rfl (by rw[j<|by simp only[*, if_true,if_false,aX]];rfl) rfl trivial
  |skip
 have G:(!cT w||(x.ai==[46]))=false:=by simp only[*, if_true,if_false,aX]
 have Y:cT w=true:=by cases h:cT w<;>simp_all
 have J:=λp hp=>(di Y p hp).1
 have H:gD w x=((cq w.ah x.ai).2&&lr w x):=by unfold gD;rw[G];rfl
 rw[H];have N:=bX (cx' :=cxV) rfl rfl<|kC w x.ai J hn;refine⟨[2,3,5],_,N,⟨rfl,rfl,rfl⟩,M ?_⟩
 refine aN<|M ?_
 refine aD ?_ ?_<;>intro Z
 .have W:(cq w.ah x.ai).2=false:=by simpa using Z
  exact ck rfl (by rw[W];rfl) rfl trivial
 have W:(cq w.ah x.ai).2=true:=by simpa using Z
 rw[W,gq];by_cases K:x.kind=1
 .have I:lr w x=((x.name==[])&&qq x.key&&iP w x.ar):=by unfold lr;rw[if_pos K]
  rw[I,show(x.kind==1)=true by simp[K]];conv=>whnf
  repeat' (first|(refine⟨_,_,zA w x.ar,M ?_⟩)|(refine aD ?_ ?_<;>intro h)|fail)
  all_goals exact ck rfl (by clear H N j J G;refine congrArg (λb=>AV.d<|D.bool b) ?_;(try unfold qq);(try simp_all)) rfl trivial
 rw[show(x.kind==1)=false by simp[K]];conv=>whnf
 by_cases T:x.kind=2
 .have I:lr w x=((x.name==[])&&decide ((x.ar.length:Int)=0)&&FD x.key):=by unfold lr;rw[if_neg K,if_pos T]
  rw[I,show(x.kind==2)=true by simp[T]];conv=>whnf
  repeat' (first|(refine⟨_,_,Pm x.key,M ?_⟩)|(refine aD ?_ ?_<;>intro h)|fail)
  all_goals exact ck rfl (by clear H N j J G;refine congrArg (λb=>AV.d<|D.bool b) ?_;(try unfold qq);(try simp_all)) rfl trivial
 rw[show(x.kind==2)=false by simp[T]];conv=>whnf
 by_cases U:x.kind=3
 .have I:lr w x=(ur x.name&&qq x.key&&xT w x.ar):=by unfold lr;rw[if_neg K,if_neg T,if_pos U]
  rw[I,show(x.kind==3)=true by simp[U]];conv=>whnf
  (refine bJ<|M ?_)
  repeat' (first|(refine⟨_,_,plain_fn x.name,M ?_⟩)|(refine aD ?_ ?_<;>intro h)|fail)
  all_goals first
   |exact ck rfl (by clear H N j J G;refine congrArg (λb=>AV.d<|D.bool b) ?_;(try unfold qq);(try simp_all);(first|done|rfl|exact DY<|by omega)) rfl trivial
   |skip
  obtain⟨n,X⟩:∃n,x.ar=[n]:=by
   have h6:x.ar.length=1:=by
    simp only[au,beq_iff_eq]at *;omega
   match x.ar,h6 with
   |[n],_=>exact⟨n,rfl⟩
  refine⟨Int.le_refl 0,dq n,by rw[X];rfl,M ?_⟩
  (refine⟨_,_,GP w n,M ?_⟩)
  exact ck rfl (by clear H N j J G;refine congrArg (λb=>AV.d<|D.bool b) ?_;(try unfold qq);(try simp_all);(first|done|rfl|exact DY<|by omega)) rfl trivial
 rw[show(x.kind==3)=false by simp[U]];conv=>whnf
 by_cases V:x.kind=4
 .have I:lr w x=(uw w (cq w.ah x.ai).1 x.name&&iP w x.ar&&FD x.key):=by unfold lr;rw[if_neg K,if_neg T,if_neg U,if_pos V]
  rw[I,show(x.kind==4)=true by simp[V]];conv=>whnf
  have hS:=bX (cx' :=cxV) rfl rfl<|Oi w (cq w.ah x.ai).1 x.name J hn;refine⟨[2,3,5,6],_,hS,⟨rfl,rfl,rfl⟩,M ?_⟩
  refine aN<|M ?_
  repeat' (first|(refine⟨_,_,Pm x.key,M ?_⟩)|(refine⟨_,_,zA w x.ar,M ?_⟩)|(refine aD ?_ ?_<;>intro h)|fail)
  all_goals exact ck rfl (by clear H N j J G;refine congrArg (λb=>AV.d<|D.bool b) ?_;(try unfold qq);(try simp_all)) rfl trivial
 rw[show(x.kind==4)=false by simp[V]];conv=>whnf
 have I:lr w x=false:=by unfold lr;rw[if_neg K,if_neg T,if_neg U,if_neg V]
 exact ck rfl (by rw[I];rfl) rfl trivial
