/-
  Merged texts.
-/
import Derived.Test.YtodofogcincleaaGreatDoorMQbs
import Derived.Test.YtodofogcincleaaGreatDoorMGk
set_option linter.all false
set_option maxRecDepth 100000
namespace NP
open NQ Go
def fq(c:Int):List D:=[.int .u8 c]
def cB(n:Int):List D:=[.int .i64 n]
def QW(x c:Int):Int:=IntKind.u64.wrap (Mr .u64 x (IntKind.u64.wrap c)*1099511628211)
def km:Int->List Int->Int
 |x,[]=>x
 |x,c::t=>km (QW x c) t
def dG(n:Int):List Int:=(List.range 8).map λi=>IntKind.u8.wrap ((IntKind.u64.wrap n).fdiv (2 ^ (56-8*i)))
def oh:Int->List Int->Int
 |x,[]=>x
 |x,n::t=>oh (km x (dG n)) t
def qY(s:Bs):List Int:=s.map λc=>(c.toNat:Int)
theorem Bj(s:Bs):dy s=(qY s).map fq:=by simp[dy,qY,fq,Function.comp_def]
def Ow(set:List Int)(zone:Bs)(n m since till:Int):Int :=
 oh (km (km (km 14695981039346656037 set) [IntKind.u8.wrap (zone.length:Int)]) (qY zone)) [n,m,since,till]
def qN(n m:Int):List D:=[.int .i64 n,.int .i64 m]
end NP
namespace Go.Proofs.YtodofogcincleaaGreatDoor
open NQ Go NP Go.RowKit
theorem uU(x:Int)(l:List Int)(hl:l.length<=100000000):FnB cx 162 [.int .u64 x] [.slice 1 (l.map fq)] (.tuple []) [.int .u64 (km x l)]:=by
 refine HM (λ_=>[]) aV mixed Tryz.func162 (by kernel_rfl) rfl (ag rfl) (ag rfl) ?_;conv=>whnf
 refine⟨Nat×Int,λy=>⟨[(0,.ptr 100000 0),(6,.d (.slice 1 (l.map fq))),(7,.d (.int .i64 ((l.map fq).length:Int))),(8,.d (.int .i64 y.1))],[(100000,.box [.d (.int .u64 y.2)])]⟩,
  λy=>y.1<=l.length/\km y.2 (l.drop y.1)=km x l,λy=>l.length-y.1,⟨(0,x),⟨by omega,rfl⟩,aC.keep ⟨ae,ae,ae,ae,trivial⟩ ⟨ae,trivial⟩⟩,?_⟩
 rintro⟨k,d⟩ ⟨hk,hc⟩;simp only at hk hc
 conv=>whnf
 refine af (λh1=>?_) (λh1=>?_) <;> (rw[h1];conv=>whnf)
 . have hlt:k<l.length:=by simp at h1;omega
   obtain⟨c,hck⟩:∃c,l[k]? =some c:=⟨_,ai hlt⟩
   rw[drop_cons hck,km]at hc;refine⟨aw k,fq c,aB hck,?_⟩
   conv=>whnf
   refine⟨(k+1,QW d c),⟨hlt,hc⟩,by(show l.length-(k+1)<l.length-k;omega),aC.keep ⟨ae,ae,ae,⟨ao (by omega),rfl⟩,trivial⟩ ⟨ae,trivial⟩⟩
 . obtain rfl:k=l.length:=by simp at h1;omega
   rw[List.drop_length,km]at hc;refine⟨[],_,_,rfl,rfl,rfl,?_⟩;rw[<- hc];rfl
noncomputable def fG (l:List (Nat×Nat)) (f:Nat):Nat:=match find l f with|some n=>n|none=>cx.chg f
noncomputable def cxG:Cx:={cx with chg:=fG [(162,3),(161,9)],bld:=[19,31]}
theorem tyG:aZ cxG:=aV
theorem KU:cxG.P.follows .mixedOrders=true:=mixed
def pv0:Int->Value:=λ_=>undef
theorem Ov(x:Int)(l:List Int)(hl:l.length<=100000):FnP cxG pv0 161 [.d (.slice 1 (l.map cB)),.ptr 100011 0] [(100011,.box [.d (.int .u64 x)])] (some (.tuple [],[(100011,.box [.d (.int .u64 (oh x l))])])):=by
 refine aS [] (fun|9=>[33333,5]|_=>[]) tyG KU Tryz.func161 (by kernel_rfl) rfl (ag rfl) (ag rfl) rfl ?_
 conv=>whnf
 refine⟨Nat×Int,λy=>⟨[(1,.ptr 100011 0),(7,.d (.slice 1 (l.map cB))),(8,.d (.int .i64 ((l.map cB).length:Int))),(9,.d (.int .i64 y.1))],[(100011,.box [.d (.int .u64 y.2)])]⟩,
  λy=>y.1<=l.length/\oh y.2 (l.drop y.1)=oh x l,λy=>l.length-y.1,⟨(0,x),⟨by omega,rfl⟩,(ah.keep ⟨ae,ae,ae,ae,trivial⟩ ⟨ae,trivial⟩)⟩,?_⟩
 rintro⟨k,d⟩ ⟨hk,hc⟩;simp only at hk hc
 conv=>whnf
 refine af (λh1=>?_) (λh1=>?_) <;> (rw[h1];conv=>whnf)
 . have hlt:k<l.length:=by simp at h1;omega
   obtain⟨n,hnk⟩:∃n,l[k]? =some n:=⟨_,ai hlt⟩
   rw[drop_cons hnk,oh]at hc;refine⟨aw k,cB n,aB hnk,?_⟩
   conv=>whnf
   refine⟨Nat,λi=>⟨[(1,.ptr 100011 0),(4,.d (.int .i64 n)),(5,.ptr 5 0),(7,.d (.slice 1 (l.map cB))),(8,.d (.int .i64 ((l.map cB).length:Int))),(9,.d (.int .i64 k)),(13,.d (.int .i64 i))],[(100011,.box [.d (.int .u64 d)]),(5,.box (((dG n).take i++List.replicate (8-i) 0).map λc=> .d (.int .u8 c)))]⟩,
    λi=>i<=8,λi=>8-i,⟨0,by omega,(ah.keep ⟨ae,ae,ae,ae,ae,ae,ae,trivial⟩ ⟨ae,ae,trivial⟩)⟩,?_⟩
   intro i hi;rcases i with _|_|_|_|_|_|_|_|_|i
   case succ.succ.succ.succ.succ.succ.succ.succ.succ=>omega
   all_goals conv=>whnf
   all_goals try (refine⟨by decide,by decide,?_⟩;conv=>whnf)
   . exact⟨1,by decide,by decide,ah.keep ⟨ae,ae,ae,ae,ae,ae,ae,trivial⟩ ⟨ae,⟨by kernel_rfl,rfl⟩,trivial⟩⟩
   . exact⟨2,by decide,by decide,ah.keep ⟨ae,ae,ae,ae,ae,ae,ae,trivial⟩ ⟨ae,⟨by kernel_rfl,rfl⟩,trivial⟩⟩
   . exact⟨3,by decide,by decide,ah.keep ⟨ae,ae,ae,ae,ae,ae,ae,trivial⟩ ⟨ae,⟨by kernel_rfl,rfl⟩,trivial⟩⟩
   . exact⟨4,by decide,by decide,ah.keep ⟨ae,ae,ae,ae,ae,ae,ae,trivial⟩ ⟨ae,⟨by kernel_rfl,rfl⟩,trivial⟩⟩
   . exact⟨5,by decide,by decide,ah.keep ⟨ae,ae,ae,ae,ae,ae,ae,trivial⟩ ⟨ae,⟨by kernel_rfl,rfl⟩,trivial⟩⟩
   . exact⟨6,by decide,by decide,ah.keep ⟨ae,ae,ae,ae,ae,ae,ae,trivial⟩ ⟨ae,⟨by kernel_rfl,rfl⟩,trivial⟩⟩
   . exact⟨7,by decide,by decide,ah.keep ⟨ae,ae,ae,ae,ae,ae,ae,trivial⟩ ⟨ae,⟨by kernel_rfl,rfl⟩,trivial⟩⟩
   . exact⟨8,by decide,by decide,ah.keep ⟨ae,ae,ae,ae,ae,ae,ae,trivial⟩ ⟨ae,⟨by kernel_rfl,rfl⟩,trivial⟩⟩
   . refine⟨_,_,uU d (dG n) (by simp[dG]),?_⟩
     conv=>whnf
     exact⟨(k+1,km d (dG n)),⟨hlt,hc⟩,by(show l.length-(k+1)<l.length-k;omega),ah.keep ⟨ae,ae,ae,⟨ao (by omega),rfl⟩,trivial⟩ ⟨ae,trivial⟩⟩
 . obtain rfl:k=l.length:=by simp at h1;omega
   rw[List.drop_length,oh]at hc;exact .inl ⟨[],(ah.keep trivial ⟨⟨by rw[<- hc];rfl,rfl⟩,trivial⟩),rfl⟩
theorem RH(set:List Int)(zone:Bs)(n m since till:Int)(h1:set.length<=10000000)(h2:zone.length<=1000000):NQ.Fn cxG 97 [.slice 1 (set.map fq),.str zone,.agg (qN n m),.int .i64 since,.int .i64 till] (.d (.int .u64 (Ow set zone n m since till))) []:=by
 refine hZ (pv:=pv0) ?_;refine aS [100011] (fun|3=>[55555]|5=>[33333]|6=>[33333,55555]|_=>[]) tyG KU Tryz.func97 (by kernel_rfl) rfl (ag rfl) (ag rfl) rfl ?_;have key:∀x1 x2 x3 x4:Int,x1=km 14695981039346656037 set->x2=km x1 [IntKind.u8.wrap (zone.length:Int)]->x3=km x2 (qY zone)->x4=oh x3 [n,m,since,till]->Ow set zone n m since till=x4:=by
  rintro _ _ _ _ rfl rfl rfl rfl;rfl
 obtain⟨x1,e1⟩:∃x,x=km 14695981039346656037 set:=⟨_,rfl⟩
 obtain⟨x2,e2⟩:∃x,x=km x1 [IntKind.u8.wrap (zone.length:Int)]:=⟨_,rfl⟩
 obtain⟨x3,e3⟩:∃x,x=km x2 (qY zone):=⟨_,rfl⟩
 obtain⟨x4,e4⟩:∃x,x=oh x3 [n,m,since,till]:=⟨_,rfl⟩
 rw[key x1 x2 x3 x4 e1 e2 e3 e4];have f1:=uU 14695981039346656037 set (by omega);rw[<- e1]at f1;have f2:=uU x1 [IntKind.u8.wrap (zone.length:Int)] (by simp);rw[<- e2]at f2;have f3:=uU x2 (qY zone) (by rw[qY,an];omega);rw[<- e3, <- Bj]at f3;have f4:=Ov x3 [n,m,since,till] (by simp);rw[<- e4]at f4;clear key e1 e2 e3 e4
 conv=>whnf
 refine⟨_,ah.name 11 100011 rfl rfl,?_⟩
 conv=>whnf
 refine⟨_,_,f1,?_⟩
 conv=>whnf
 refine⟨_,_,f2,?_⟩
 conv=>whnf
 refine⟨_,_,f3,?_⟩
 conv=>whnf
 refine⟨_,ah.keep (sl:=[(3,.d (.int .i64 since)),(4,.d (.int .i64 till)),(7,.ptr 7 0),(11,.ptr 100011 0),(12,.fn 161 [] [.ptr 100011 0])]) (h:=[(7,.box [.d (.int .i64 n),.d (.int .i64 m)]),(100011,.box [.d (.int .u64 x3)])]) ⟨⟨rfl,rfl⟩,⟨rfl,rfl⟩,⟨rfl,rfl⟩,⟨rfl,rfl⟩,⟨rfl,rfl⟩,trivial⟩ ⟨⟨rfl,rfl⟩,⟨rfl,rfl⟩,trivial⟩,?_⟩
 conv=>whnf
 refine⟨[7],_,f4,⟨rfl,rfl,rfl⟩,?_⟩
 conv=>whnf
 refine az ?_
 conv=>whnf
 exact .inl ⟨[(10,.d (.int .u64 x4))],ah.keep ⟨ae,trivial⟩ trivial,rfl⟩
end Go.Proofs.YtodofogcincleaaGreatDoor
namespace NP
open NQ Go
def fg(t:Bs):List Int:=IntKind.u8.wrap (t.length:Int)::qY t
def Ht(d:Datum):List Int:=fg d.text++dG d.n++dG d.m
def fe:List Datum->List Int
 |[]=>[]
 |d::t=>Ht d++fe t
def setBytes(s:cu):List Int:=fg s.name++dG s.type++dG s.life++[IntKind.u8.wrap (s.data.length:Int)]++fe s.data
theorem sP(s:Bs):(qY s).length=s.length:=by simp[qY]
theorem pr(n:Int):(dG n).length=8:=by simp[dG]
theorem CQ(d:Datum):(Ht d).length=d.text.length+17:=by simp[Ht,fg,sP,pr]
theorem AD:∀a b:List Datum,fe (a++b)=fe a++fe b
 |[],b=>rfl
 |d::t,b=>by simp[fe,AD t b]
theorem tK:∀(l:List Datum) (_:∀d∈l,d.text.length<=100000),(fe l).length<=l.length*100017
 |[],_=>by simp[fe]
 |d::t,h=>by
  have h1:=tK t λd hd=>h d (bk _ hd)
  have h2:=h d (List.mem_cons_self ..);simp only[fe,List.length_append,CQ,List.length_cons];omega
end NP
namespace Go.Proofs.YtodofogcincleaaGreatDoor
open NQ Go NP Go.RowKit
noncomputable def cxY:Cx:={cx with chg:=fG [(159,9),(160,9)],bld:=[9,16,27]}
theorem tyY:aZ cxY:=aV
theorem yo:cxY.P.follows .mixedOrders=true:=mixed
abbrev lD(l:List Int):Blk:= .row 5 1 (l.map fq)
theorem vH(l:List Int)(t:Bs)(hl:l.length<=10000000000000)(ht:t.length<=1000000000):FnP cxY pv0 159 [.own 90050,.d (.str t)] [(90050,lD l)] (some (.own 90050,[(90050,lD (l++fg t))])):=by
 refine aS [] (fun|2=>[33333]|_=>[]) tyY yo Tryz.func159 (by kernel_rfl) rfl (ag rfl) (ag rfl) rfl ?_
 conv=>whnf
 refine⟨by(show(l.map fq).length+1<=_;rw[an];omega),by(show((l.map fq).length+1)*1<=_;rw[an];omega),?_⟩
 conv=>whnf
 refine⟨by(show(l.map fq++_).length+t.length<=_;rw[List.length_append,an];show l.length+1+t.length<=_;omega),?_⟩
 conv=>whnf
 refine .inl ⟨[(4,.own 90050)],ah.keep ⟨ae,trivial⟩ ⟨⟨?_,rfl⟩,trivial⟩,rfl⟩;show some (Blk.row _ _ (l.map fq++[[_]]++dy t))=some (Blk.row _ _ _)
 rw[Bj,fg,List.map_append,List.append_assoc];rfl
theorem oc(l:List Int)(n:Int)(hl:l.length<=10000000000000):FnP cxY pv0 160 [.own 90050,.d (.int .i64 n)] [(90050,lD l)] (some (.own 90050,[(90050,lD (l++dG n))])):=by
 refine aS [] (fun|_=>[]) tyY yo Tryz.func160 (by kernel_rfl) rfl (ag rfl) (ag rfl) rfl ?_
 conv=>whnf
 refine⟨Nat,λi=>⟨[(0,.own 90050),(1,.d (.int .i64 n)),(5,.d (.int .i64 (56-8*(i:Int))))],[(90050,lD (l++(dG n).take i))]⟩,λi=>i<=8,λi=>8-i,⟨0,by omega,ah.keep ⟨ae,ae,ae,trivial⟩ ⟨⟨by(show some (Blk.row _ _ _)=some (Blk.row _ _ _);rw[List.take_zero,List.append_nil]),rfl⟩,trivial⟩⟩,?_⟩;intro i hi;have step:∀i,i<8->(l++(dG n).take i).map fq++[[D.int .u8 (IntKind.u8.wrap ((IntKind.u64.wrap n).fdiv (2 ^ (56-8*i))))]]=(l++(dG n).take (i+1)).map fq:=λi hi=>by
  have h:(dG n)[i]? =some (IntKind.u8.wrap ((IntKind.u64.wrap n).fdiv (2 ^ (56-8*i)))):=by simp[dG,hi]
  rw[List.take_add_one,h];simp[fq]
 have hlen:∀i,i<8->((l++(dG n).take i).map fq).length+1<=10000000000100:=λi hi=>by
  rw[an,List.length_append,List.length_take];omega
 have h8:(dG n).take 8=dG n:=List.take_of_length_le (by simp[dG]);rcases i with _|_|_|_|_|_|_|_|_|i
 case succ.succ.succ.succ.succ.succ.succ.succ.succ=>omega
 all_goals conv=>whnf
 . refine⟨Nat.le_trans (hlen 0 (by omega)) (by decide),(Nat.mul_one _).symm ▸ Nat.le_trans (hlen 0 (by omega)) (by decide),?_⟩
   conv=>whnf
   exact⟨1,by decide,by decide,ah.keep ⟨ae,ae,ae,trivial⟩ ⟨⟨congrArg (λr=>some (Blk.row 5 1 r)) (step 0 (by omega)),rfl⟩,trivial⟩⟩
 . refine⟨Nat.le_trans (hlen 1 (by omega)) (by decide),(Nat.mul_one _).symm ▸ Nat.le_trans (hlen 1 (by omega)) (by decide),?_⟩
   conv=>whnf
   exact⟨2,by decide,by decide,ah.keep ⟨ae,ae,ae,trivial⟩ ⟨⟨congrArg (λr=>some (Blk.row 5 1 r)) (step 1 (by omega)),rfl⟩,trivial⟩⟩
 . refine⟨Nat.le_trans (hlen 2 (by omega)) (by decide),(Nat.mul_one _).symm ▸ Nat.le_trans (hlen 2 (by omega)) (by decide),?_⟩
   conv=>whnf
   exact⟨3,by decide,by decide,ah.keep ⟨ae,ae,ae,trivial⟩ ⟨⟨congrArg (λr=>some (Blk.row 5 1 r)) (step 2 (by omega)),rfl⟩,trivial⟩⟩
 . refine⟨Nat.le_trans (hlen 3 (by omega)) (by decide),(Nat.mul_one _).symm ▸ Nat.le_trans (hlen 3 (by omega)) (by decide),?_⟩
   conv=>whnf
   exact⟨4,by decide,by decide,ah.keep ⟨ae,ae,ae,trivial⟩ ⟨⟨congrArg (λr=>some (Blk.row 5 1 r)) (step 3 (by omega)),rfl⟩,trivial⟩⟩
 . refine⟨Nat.le_trans (hlen 4 (by omega)) (by decide),(Nat.mul_one _).symm ▸ Nat.le_trans (hlen 4 (by omega)) (by decide),?_⟩
   conv=>whnf
   exact⟨5,by decide,by decide,ah.keep ⟨ae,ae,ae,trivial⟩ ⟨⟨congrArg (λr=>some (Blk.row 5 1 r)) (step 4 (by omega)),rfl⟩,trivial⟩⟩
 . refine⟨Nat.le_trans (hlen 5 (by omega)) (by decide),(Nat.mul_one _).symm ▸ Nat.le_trans (hlen 5 (by omega)) (by decide),?_⟩
   conv=>whnf
   exact⟨6,by decide,by decide,ah.keep ⟨ae,ae,ae,trivial⟩ ⟨⟨congrArg (λr=>some (Blk.row 5 1 r)) (step 5 (by omega)),rfl⟩,trivial⟩⟩
 . refine⟨Nat.le_trans (hlen 6 (by omega)) (by decide),(Nat.mul_one _).symm ▸ Nat.le_trans (hlen 6 (by omega)) (by decide),?_⟩
   conv=>whnf
   exact⟨7,by decide,by decide,ah.keep ⟨ae,ae,ae,trivial⟩ ⟨⟨congrArg (λr=>some (Blk.row 5 1 r)) (step 6 (by omega)),rfl⟩,trivial⟩⟩
 . refine⟨Nat.le_trans (hlen 7 (by omega)) (by decide),(Nat.mul_one _).symm ▸ Nat.le_trans (hlen 7 (by omega)) (by decide),?_⟩
   conv=>whnf
   exact⟨8,by decide,by decide,ah.keep ⟨ae,ae,ae,trivial⟩ ⟨⟨congrArg (λr=>some (Blk.row 5 1 r)) (step 7 (by omega)),rfl⟩,trivial⟩⟩
 . refine .inl ⟨[(4,.own 90050)],ah.keep ⟨ae,trivial⟩ ⟨⟨?_,rfl⟩,trivial⟩,rfl⟩;show some (Blk.row _ _ ((l++(dG n).take 8).map fq))=some (Blk.row _ _ _)
   rw[h8]
set_option maxHeartbeats 1000000 in
theorem JX(s:cu)(hv:dC s=true)(h1:s.name.length<=100000)(h2:∀d∈s.data,d.text.length<=100000)(h3:s.data.length<=10000) :
 FnP cxY pv0 96 [.agg ((bN s).map .d)] [] (some (.tuple [.own 90050,.d (.int .i64 0)],[(90050,lD (setBytes s))])):=by
 refine aS [] (fun|4=>[33333,55555]|5=>[33333,55555]|6=>[33333,55555]|7=>[55555]|11=>[33333]|12=>[33333,55555]|13=>[33333,55555]|_=>[]) tyY yo Tryz.func96 (by kernel_rfl) rfl (ag rfl) (ag rfl) rfl ?_
 conv=>whnf
 (refine⟨_,_,ll s,?_⟩;conv=>whnf)
 rw[hv]
 conv=>whnf
 have hb:=tK s.data h2;have l1:(fg s.name).length<=100001:=by rw[fg,List.length_cons,sP];omega
 have l2:(fg s.name++dG s.type).length<=100010:=by rw[List.length_append,pr];omega
 have l3:(fg s.name++dG s.type++dG s.life).length<=100020:=by rw[List.length_append,pr];omega
 have lk:∀k,(fg s.name++dG s.type++dG s.life++[IntKind.u8.wrap (s.data.length:Int)]++fe (s.data.take k)).length<=2000000000:=λk=>by
  have h4:=tK (s.data.take k) λd hd=>h2 d (List.mem_of_mem_take hd)
  have h5:(s.data.take k).length<=s.data.length:=by rw[List.length_take];omega
  have h6:(s.data.take k).length*100017<=s.data.length*100017:=Nat.mul_le_mul_right _ h5;simp only[List.length_append,List.length_singleton]at l3 ⊢;omega
 refine⟨_,(ah.jN 4 90050 1 5 1 rfl rfl (by decide)).trans (ah.keep (sl:=[(1,.ptr 1 0),(4,.own 90050)]) (h:=[(1,.box ((bN s).map .d)),(90050,lD [])]) ⟨⟨rfl,rfl⟩,⟨rfl,rfl⟩,trivial⟩ ⟨⟨rfl,rfl⟩,⟨rfl,rfl⟩,trivial⟩),?_⟩
 conv=>whnf
 refine⟨[1],_,vH [] s.name (by simp) (by omega),⟨rfl,rfl,rfl⟩,?_⟩
 conv=>whnf
 refine az ?_
 conv=>whnf
 refine⟨_,ah.keep (sl:=[(1,.ptr 1 0),(4,.own 90050)]) (h:=[(1,.box ((bN s).map .d)),(90050,lD _)]) ⟨⟨rfl,rfl⟩,⟨rfl,rfl⟩,trivial⟩ ⟨⟨rfl,rfl⟩,⟨rfl,rfl⟩,trivial⟩,?_⟩
 conv=>whnf
 refine⟨[1],_,oc (fg s.name) s.type (by omega),⟨rfl,rfl,rfl⟩,?_⟩
 conv=>whnf
 refine az ?_
 conv=>whnf
 refine⟨_,ah.keep (sl:=[(1,.ptr 1 0),(4,.own 90050)]) (h:=[(1,.box ((bN s).map .d)),(90050,lD _)]) ⟨⟨rfl,rfl⟩,⟨rfl,rfl⟩,trivial⟩ ⟨⟨rfl,rfl⟩,⟨rfl,rfl⟩,trivial⟩,?_⟩
 conv=>whnf
 refine⟨[1],_,oc (fg s.name++dG s.type) s.life (by omega),⟨rfl,rfl,rfl⟩,?_⟩
 conv=>whnf
 refine az ?_
 conv=>whnf
 refine⟨_,ah.keep (sl:=[(1,.ptr 1 0),(4,.own 90050)]) (h:=[(1,.box ((bN s).map .d)),(90050,lD (fg s.name++dG s.type++dG s.life))]) ⟨⟨rfl,rfl⟩,⟨rfl,rfl⟩,trivial⟩ ⟨⟨rfl,rfl⟩,⟨rfl,rfl⟩,trivial⟩,?_⟩
 conv=>whnf
 refine⟨by(show(List.map fq _).length+1<=_;rw[an];omega),by(show((List.map fq _).length+1)*1<=_;rw[an];omega),?_⟩
 conv=>whnf
 obtain⟨B,hB⟩:∃B,B=fg s.name++dG s.type++dG s.life++[IntKind.u8.wrap (s.data.length:Int)]:=⟨_,rfl⟩
 rw[<- hB]at lk;refine⟨Nat,λk=>⟨[(1,.ptr 1 0),(4,.own 90050),(30,.d (.slice 3 (s.data.map aG))),(31,.d (.int .i64 (s.data.map aG).length)),(32,.d (.int .i64 k))],[(1,.box ((bN s).map .d)),(90050,lD (B++fe (s.data.take k)))]⟩,
  λk=>k<=s.data.length,λk=>s.data.length-k,⟨0,by omega,ah.keep ⟨ae,ae,ae,ae,ae,trivial⟩ ⟨ae,⟨?_,rfl⟩,trivial⟩⟩,?_⟩
 . show some (Blk.row _ _ (List.map fq _++[[_]]))=some (Blk.row _ _ _)
   rw[hB,List.take_zero,fe,List.append_nil,an,List.map_append (l₂:=[_])];rfl
 intro k hk
 conv=>whnf
 refine af (λh1=>?_) (λh1=>?_) <;> (rw[h1];conv=>whnf)
 . have hlt:k<s.data.length:=by simp at h1;omega
   obtain⟨d,hdk⟩:∃d,s.data[k]? =some d:=⟨_,ai hlt⟩
   have htx:=h2 d (au hdk);have lk0:=lk k;refine⟨aw k,aG d,aB hdk,?_⟩
   conv=>whnf
   have tl:(fg d.text).length<=100001:=by rw[fg,List.length_cons,sP];omega
   have e1:(B++fe (s.data.take k)++fg d.text).length<=3000000000:=by rw[List.length_append];omega
   have e2:(B++fe (s.data.take k)++fg d.text++dG d.n).length<=3000000010:=by rw[List.length_append,pr];omega
   refine⟨[1,6],_,vH (B++fe (s.data.take k)) d.text (by omega) (by omega),⟨rfl,rfl,rfl⟩,?_⟩
   conv=>whnf
   refine az ?_
   conv=>whnf
   refine⟨_,ah.keep (sl:=[(1,.ptr 1 0),(4,.own 90050),(6,.ptr 6 0),(30,.d (.slice 3 (s.data.map aG))),(31,.d (.int .i64 (s.data.map aG).length)),(32,.d (.int .i64 k))]) (h:=[(1,.box ((bN s).map .d)),(6,.box ((aG d).map .d)),(90050,lD _)]) ⟨⟨rfl,rfl⟩,⟨rfl,rfl⟩,⟨rfl,rfl⟩,⟨rfl,rfl⟩,⟨rfl,rfl⟩,⟨rfl,rfl⟩,trivial⟩ ⟨⟨rfl,rfl⟩,⟨rfl,rfl⟩,⟨rfl,rfl⟩,trivial⟩,?_⟩
   conv=>whnf
   refine⟨[1,6],_,oc (B++fe (s.data.take k)++fg d.text) d.n (by omega),⟨rfl,rfl,rfl⟩,?_⟩
   conv=>whnf
   refine az ?_
   conv=>whnf
   refine⟨_,ah.keep (sl:=[(1,.ptr 1 0),(4,.own 90050),(6,.ptr 6 0),(30,.d (.slice 3 (s.data.map aG))),(31,.d (.int .i64 (s.data.map aG).length)),(32,.d (.int .i64 k))]) (h:=[(1,.box ((bN s).map .d)),(6,.box ((aG d).map .d)),(90050,lD _)]) ⟨⟨rfl,rfl⟩,⟨rfl,rfl⟩,⟨rfl,rfl⟩,⟨rfl,rfl⟩,⟨rfl,rfl⟩,⟨rfl,rfl⟩,trivial⟩ ⟨⟨rfl,rfl⟩,⟨rfl,rfl⟩,⟨rfl,rfl⟩,trivial⟩,?_⟩
   conv=>whnf
   refine⟨[1,6],_,oc (B++fe (s.data.take k)++fg d.text++dG d.n) d.m (by omega),⟨rfl,rfl,rfl⟩,?_⟩
   conv=>whnf
   refine az ?_
   conv=>whnf
   refine⟨k+1,hlt,by(show s.data.length-(k+1)<s.data.length-k;omega),ah.keep ⟨ae,ae,ae,ae,⟨ao (by omega),rfl⟩,trivial⟩ ⟨ae,⟨congrArg (λr=>some (lD r)) ?_,rfl⟩,trivial⟩⟩;rw[bK hdk,AD];simp[fe,Ht]
 . obtain rfl:k=s.data.length:=by simp at h1;omega
   refine .inl ⟨[(2,.own 90050),(3,.d (.int .i64 0))],ah.keep ⟨ae,ae,trivial⟩ ⟨⟨congrArg (λr=>some (lD r)) ?_,rfl⟩,trivial⟩,rfl⟩;rw[List.take_length,hB];rfl
theorem JW(s:cu)(hv:dC s=false):FnP cxY pv0 96 [.agg ((bN s).map .d)] [] (some (.tuple [.nil 1,.d (.int .i64 1)],[])):=by
 refine aS [] (fun|_=>[]) tyY yo Tryz.func96 (by kernel_rfl) rfl (ag rfl) (ag rfl) rfl ?_
 conv=>whnf
 (refine⟨_,_,ll s,?_⟩;conv=>whnf)
 rw[hv]
 conv=>whnf
 exact gF rfl rfl rfl
end Go.Proofs.YtodofogcincleaaGreatDoor
namespace NP
open NQ Go
structure dJ where
 n:Int
 alg:Int
 deriving DecidableEq
def cK(k:dJ):List D:=[.int .i64 k.n,.int .i64 k.alg]
def np(k:dJ):Bool:=decide (k.n>=1)&&(decide (k.n<=1000000)&&(decide (k.alg>=1)&&decide (k.alg<=3)))
def qC(a b:Int):Bool:=decide (a>=0)&&(decide (a<=b)&&decide (b<=20000000))
def vx(a:Int):Bool:=decide (a>=0)&&decide (a<65536)
def sR(a:Int):Int×Int:=if vx a=true then((a+1).tmod 65536,0)else(0,1)
def lv(s:cu):List dJ:=s.data.map λd=>⟨d.n,d.m⟩
def db(s:cu):List dJ×Int:=if dC s=true then(if s.type=7 then(lv s,0)else([],12))else([],1)
def GR:Sig:=⟨[],0,0,0,0,0⟩
def yQ(s:cu)(zone:Bs)(k:dJ)(a b:Int):Bool:=(np k&&(qC a b&&(aQ zone&& !jz zone)))&&(dC s&&(bo s.name zone).1)
def xj(s:cu)(zone:Bs)(k:dJ)(a b:Int):Sig:=⟨zone,k.n,k.alg,a,b,Ow (setBytes s) zone k.n k.alg a b⟩
def qw(s:cu)(zone:Bs)(k:dJ)(a b:Int):Sig×Int:=if yQ s zone k a b=true then(xj s zone k a b,0)else(GR,1)
theorem yN{s:cu}(h:dC s=true):s.name.length<=60/\(∀d∈s.data,d.text.length<=60)/\s.data.length<=8:=by
 refine⟨dZ (kO h),λd hd=>?_,mD h⟩;unfold dC at h;simp only[aF,ay]at h;obtain⟨i,hi,rfl⟩:=List.getElem_of_mem hd;have:=h.2 i (List.mem_range.2 hi);have h1:s.data[i-1]? =some s.data[i-1]:=ai (by omega);rw[CP (ai hi) h1]at this;have hv:mG (rM s.type) s.data[i]=true:=by
  unfold tJ at this;simp only[Bool.not_eq_true',Bool.or_eq_false_iff,Bool.not_eq_false']at this;exact this.1
 unfold mG at hv;simp only[aF]at hv;have ht:=hv.2;unfold uJ at ht;split at ht
 . simp only[aF]at ht;exact dZ ht.1
 . split at ht
   . exact dZ ht
   . split at ht
     . unfold cj at ht;simp only[aF,decide_eq_true_eq]at ht;have:=ht.1.1.1.2;omega
     . have:=eq_of_beq ht;rw[this];simp
theorem Je(s:cu)(h:dC s=true):(setBytes s).length<=10000:=by
 obtain⟨h1,h2,h3⟩:=yN h;have:∀(l:List Datum) (_:∀d∈l,d.text.length<=60),(fe l).length<=l.length*77:=by
  intro l;induction l with
  |nil=>intro _;simp[fe]
  |cons d t ih =>
   intro h;have h1:=ih λd hd=>h d (bk _ hd)
   have h2:=h d (List.mem_cons_self ..);simp only[fe,List.length_append,CQ,List.length_cons];omega
 have h4:=this s.data h2;simp only[setBytes,List.length_append,fg,List.length_cons,sP,pr,List.length_nil];omega
end NP
namespace Go.Proofs.YtodofogcincleaaGreatDoor
open NQ Go NP Go.RowKit
theorem wy(k:dJ):NQ.Fn cx 41 [.agg (cK k)] (.d (.bool (np k))) []:=by
 refine aK aV mixed Tryz.func41 (by kernel_rfl) rfl (ag rfl) ?_;conv=>whnf
 repeat' (first
  |(refine af (λh=>?_) (λh=>?_) <;> (rw[h];conv=>whnf))
  |(refine aj rfl ?_;show AV.d (D.bool _)=_;simp only[np, *, if_true,if_false,aI];done)
  |fail)
theorem wz(a b:Int):NQ.Fn cx 39 [.int .i64 a,.int .i64 b] (.d (.bool (qC a b))) []:=by
 refine aK aV mixed Tryz.func39 (by kernel_rfl) rfl (ag rfl) ?_;conv=>whnf
 repeat' (first
  |(refine af (λh=>?_) (λh=>?_) <;> (rw[h];conv=>whnf))
  |(refine aj rfl ?_;show AV.d (D.bool _)=_;simp only[qC, *, if_true,if_false,aI];done)
  |fail)
theorem Ap(a:Int):NQ.Fn cx 225 [.int .i64 a] (.d (.bool (vx a))) []:=by
 refine aK aV mixed Tryz.func225 (by kernel_rfl) rfl (ag rfl) ?_;conv=>whnf
 repeat' (first
  |(refine af (λh=>?_) (λh=>?_) <;> (rw[h];conv=>whnf))
  |(refine aj rfl ?_;show AV.d (D.bool _)=_;simp only[vx, *, if_true,if_false,aI];done)
  |fail)
theorem Cj(a:Int):NQ.Fn cx 186 [.int .i64 a] (.tuple [.d (.int .i64 (sR a).1),.d (.int .i64 (sR a).2)]) []:=by
 refine aK aV mixed Tryz.func186 (by kernel_rfl) rfl (ag rfl) ?_;conv=>whnf
 (refine⟨_,_,Ap a,?_⟩;conv=>whnf)
 cases h:vx a with
 |false =>
  conv=>whnf
  refine aj rfl ?_;rw[sR,if_neg (by rw[h];simp)];rfl
 |true =>
  conv=>whnf
  refine aj rfl ?_;rw[sR,if_pos h];have:IntKind.i64.wrap (a+1)=a+1:=wrap_i64 (by simp[vx]at h;omega) (by simp[vx]at h;omega);rw[this];rfl
theorem KH(s:cu)(hl:s.data.length<=100000):NQ.Fn cx 38 [.agg (bN s)] (.d (.slice 2 ((lv s).map cK))) []:=by
 refine aK aV mixed Tryz.func38 (by kernel_rfl) rfl (ag rfl) ?_;conv=>whnf
 refine⟨by omega,.inl rfl,by omega,by(simp only[an];omega),by(simp only[an];omega),?_⟩
 conv=>whnf
 refine ⟨Nat, fun k => ⟨[(1, .ptr 1 0), (3, .own 9), (11, .d (.slice 3 (s.data.map aG))), (12, .d (.int .i64 ((s.data.map aG).length : Int))), (13, .d (.int .i64 k))],
     [(1,.box ((bN s).map .d)),(9,.row 31 2 (((lv s).take k++List.replicate (s.data.length-k) (⟨0,0⟩:dJ)).map cK) true)]⟩,
  λk=>k<=s.data.length,λk=>s.data.length-k,⟨0,by omega,aC.keep ⟨ae,ae,ae,ae,ae,trivial⟩ ⟨ae,⟨by(show some (Blk.row _ _ (List.replicate ((s.data.map aG).length:Int).toNat _) true)=some (Blk.row _ _ _ true);simp[cK];done),rfl⟩,trivial⟩⟩,λk hk=>?_⟩
 conv=>whnf
 refine af (λh1=>?_) (λh1=>?_) <;> (rw[h1];conv=>whnf)
 . have hlt:k<s.data.length:=by simp at h1;omega
   obtain⟨d,hdk⟩:∃d,s.data[k]? =some d:=⟨_,ai hlt⟩
   refine⟨aw k,aG d,aB hdk,?_⟩
   conv=>whnf
   have hkk:(lv s)[k]? =some ⟨d.n,d.m⟩:=by rw[lv,aM,hdk];rfl
   refine⟨aw k,by(simp[lv];omega),?_⟩
   conv=>whnf
   have hrk:(((lv s).take k++List.replicate (s.data.length-k) (⟨0,0⟩:dJ)).map cK)[k]? =some (cK ⟨0,0⟩):=by
    rw[aM,bW (by simp[lv];omega),List.getElem?_replicate,if_pos (by simp[lv];omega)];rfl
   refine⟨_,hrk,?_⟩
   conv=>whnf
   refine⟨k+1,hlt,by(show s.data.length-(k+1)<s.data.length-k;omega),aC.keep ⟨ae,ae,ae,ae,⟨ao (by omega),rfl⟩,trivial⟩ ⟨ae,⟨?_,rfl⟩,trivial⟩⟩;show some (Blk.row _ _ (List.set _ k (cK ⟨d.n,d.m⟩)) true)=some (Blk.row _ _ _ true)
   rw[<- List.map_set,GM hkk (by simp[lv])]
 . obtain rfl:k=s.data.length:=by simp at h1;omega
   refine aj rfl ?_;rw[List.take_of_length_le (by simp[lv]),Nat.sub_self,List.replicate_zero,List.append_nil];rfl
theorem uG(s:cu):NQ.Fn cx 14 [.agg (bN s)] (.tuple [.d (.slice 2 ((db s).1.map cK)),.d (.int .i64 (db s).2)]) []:=by
 refine aK aV mixed Tryz.func14 (by kernel_rfl) rfl (ag rfl) ?_;conv=>whnf
 (refine⟨_,_,ll s,?_⟩;conv=>whnf)
 cases hv:dC s with
 |false =>
  conv=>whnf
  refine aj rfl ?_;rw[db,if_neg (by rw[hv];simp)];rfl
 |true =>
  conv=>whnf
  refine af (λh1=>?_) (λh1=>?_) <;> (rw[h1];conv=>whnf)
  . refine aj rfl ?_;rw[db,if_pos hv,if_neg (by simpa using h1)];rfl
  . (refine⟨_,_,KH s (by have:=mD hv;omega),?_⟩;conv=>whnf)
    refine aj rfl ?_;rw[db,if_pos hv,if_pos (by simpa using h1)];rfl
noncomputable def ML:Cx:={cx with chg:=fG [(96,9)]}
theorem SA:aZ ML:=aV
theorem Qi:ML.P.follows .mixedOrders=true:=mixed
theorem Qy(s:cu)(zone:Bs)(k:dJ)(a b:Int):NQ.Fn cx 47 [.agg (bN s),.str zone,.agg (cK k),.int .i64 a,.int .i64 b] (.tuple [.agg ((mE (qw s zone k a b).1).map .d),.d (.int .i64 (qw s zone k a b).2)]) []:=by
 refine hZ (pv:=pv0) (cx:=ML) ?_;refine aS [] (fun|3=>[33333]|9=>[90050]|_=>[]) SA Qi Tryz.func47 (by kernel_rfl) rfl (ag rfl) (ag rfl) rfl ?_;have bad:yQ s zone k a b=false->qw s zone k a b=(GR,1):=λh=>by rw[qw,if_neg (by rw[h];simp)]
 have hs0:yQ s zone k a b=((np k&&(qC a b&&(aQ zone&& !jz zone)))&&(dC s&&(bo s.name zone).1)):=rfl
 conv=>whnf
 (refine⟨_,_,wy k,?_⟩;conv=>whnf)
 obtain⟨q1,hq1⟩:∃q,np k=q:=⟨_,rfl⟩
 rw[hq1]at hs0 ⊢;cases q1 with
 |false =>
  conv=>whnf
  exact gF rfl rfl (by rw[bad hs0];rfl)
 |true =>
 conv=>whnf
 (refine⟨_,_,wz a b,?_⟩;conv=>whnf)
 obtain⟨q1,hq1⟩:∃q,qC a b=q:=⟨_,rfl⟩
 rw[hq1]at hs0 ⊢;cases q1 with
 |false =>
  conv=>whnf
  exact gF rfl rfl (by rw[bad hs0];rfl)
 |true =>
 conv=>whnf
 (refine⟨_,_,lC zone,?_⟩;conv=>whnf)
 obtain⟨q1,hvz⟩:∃q,aQ zone=q:=⟨_,rfl⟩
 rw[hvz]at hs0 ⊢;cases q1 with
 |false =>
  conv=>whnf
  exact gF rfl rfl (by rw[bad hs0];rfl)
 |true =>
 conv=>whnf
 (refine⟨_,_,GO zone,?_⟩;conv=>whnf)
 obtain⟨q1,hq1⟩:∃q,jz zone=q:=⟨_,rfl⟩
 rw[hq1]at hs0 ⊢;cases q1 with
 |true =>
  conv=>whnf
  exact gF rfl rfl (by rw[bad hs0];rfl)
 |false =>
 conv=>whnf
 obtain⟨q1,hq2⟩:∃q,dC s=q:=⟨_,rfl⟩
 cases q1 with
 |false =>
  refine⟨[5,7,10],_,JW s hq2,⟨rfl,rfl,rfl⟩,?_⟩
  conv=>whnf
  refine az ?_
  conv=>whnf
  exact gF rfl rfl (by rw[bad (by rw[hs0,hq2];rfl)];rfl)
 |true =>
 obtain⟨t1,t2,t3⟩:=yN hq2;refine⟨[5,7,10],_,JX s hq2 (by omega) (λd hd=>by have:=t2 d hd;omega) (by omega),⟨rfl,rfl,rfl⟩,?_⟩
 conv=>whnf
 refine az ?_
 conv=>whnf
 (refine⟨_,_,mK s.name zone,?_⟩;conv=>whnf)
 obtain⟨q1,hq3⟩:∃q,(bo s.name zone).1=q:=⟨_,rfl⟩
 rw[hq3]at ⊢;cases q1 with
 |false =>
  conv=>whnf
  exact gF rfl rfl (by rw[bad (by rw[hs0,hq2,hq3];rfl)];rfl)
 |true =>
 conv=>whnf
 have good:qw s zone k a b=(xj s zone k a b,0):=by rw[qw,if_pos (by rw[hs0,hq2,hq3];rfl)]
 have fS:=RH (setBytes s) zone k.n k.alg a b (by have:=Je s hq2;omega) (by have:=dZ hvz;omega)
 repeat' (first
  |(refine⟨(by kernel_rfl:bE _ _=true),?_⟩;conv=>whnf)
  |(refine⟨_,_,fS,?_⟩;conv=>whnf)
  |exact gF rfl rfl (by rw[good];rfl)
  |fail)
end Go.Proofs.YtodofogcincleaaGreatDoor
namespace NP
open NQ Go
def qI(apex:Bs)(s:Signed):Bool:=(s.set.type==2)&&(s.set.name != apex)
def kW(apex:Bs)(l:List Signed):List (Bs×D):=l.foldl (λm s=>if qI apex s=true then bT s.set.name (.bool true) m else m) []
def ic(apex:Bs)(l:List Signed)(n:Bs):Bool:=l.any λs=>qI apex s&&(s.set.name==n)
theorem AA(apex:Bs)(l:List Signed)(s:Signed):kW apex (l++[s])=if qI apex s=true then bT s.set.name (.bool true) (kW apex l)else kW apex l:=by
 unfold kW;rw[List.foldl_append];rfl
theorem QA{α:Type}{p:List α->Prop}(h0:p [])(h1:∀l x,p l->p (l++[x])):∀l,p l:=λl=>by
 have:∀n (l:List α),l.length=n->p l:=by
  intro n;induction n with
  |zero=>intro l hl;rw[List.eq_nil_of_length_eq_zero hl];exact h0
  |succ n ih =>
   intro l hl;have hne:l≠[]:=λe=>by rw[e]at hl;cases hl
   rw[<- List.dropLast_concat_getLast hne];exact h1 _ _ (ih _ (by rw[List.length_dropLast];omega))
 exact this _ l rfl
theorem Kg(apex n:Bs)(l:List Signed):bg n (kW apex l)=if ic apex l n=true then some (.bool true)else none:=by
 induction l using QA with
 |h0=>rfl
 |h1 l s ih =>
  rw[AA];have e:ic apex (l++[s]) n=(ic apex l n||(qI apex s&&(s.set.name==n))):=by simp[ic]
  rw[e];by_cases h:qI apex s=true
  . rw[if_pos h,oG,ih,h];by_cases h2:s.set.name=n
    . rw[if_pos h2.symm];simp[h2]
    . rw[if_neg (λe=>h2 e.symm)];have:(s.set.name==n)=false:=by simpa using h2
      rw[this];simp
  . rw[if_neg h,ih];have h:qI apex s=false:=by simpa using h
    rw[h];simp
def iN(isC:Bs->Bool)(cut:Bs)(s:Signed):Bs:=if isC s.set.name=true then s.set.name else if (!(cut==[]))=true then(if (bo s.set.name cut).1=true then cut else[])else cut
def DP(cut:Bs)(s:Signed):Bool:=(cut==[])||((s.set.type != 2)&&(s.set.type != 1))
def qp(isC:Bs->Bool):Bs->List Signed->List Bool
 |_,[]=>[]
 |cut,s::t=>DP (iN isC cut s) s::qp isC (iN isC cut s) t
def nV(z:aD):List Bool:=qp (ic z.apex z.sets) [] z.sets
theorem AS(isC:Bs->Bool):∀(cut:Bs) (l:List Signed),(qp isC cut l).length=l.length
 |_,[]=>rfl
 |cut,s::t=>by simp[qp,AS isC _ t]
theorem GL{α:Type}(acc:List α)(x y:α){k n:Nat}(h:acc.length=k)(hn:k<n):(acc++List.replicate (n-k) x).set k y=(acc++[y])++List.replicate (n-(k+1)) x:=by
 rw[List.set_append_right _ _ (by omega),h,Nat.sub_self,show n-k=(n-(k+1))+1 by omega,List.replicate_succ,List.set_cons_zero,List.append_assoc];rfl
end NP
namespace Go.Proofs.YtodofogcincleaaGreatDoor
open NQ Go NP Go.RowKit
set_option maxHeartbeats 1000000 in
theorem IF(z:aD)(hl:z.sets.length<=100000):NQ.Fn cx 45 [.agg (aH z)] (.d (.slice 1 ((nV z).map iW))) []:=by
 refine aK aV mixed Tryz.func45 (by kernel_rfl) rfl (ag rfl) ?_;conv=>whnf
 refine⟨Nat,λk=>⟨[(1,.ptr 1 0),(3,.omap 12),(14,.d (.slice 5 (z.sets.map ak))),(15,.d (.int .i64 ((z.sets.map ak).length:Int))),(16,.d (.int .i64 k))],[(1,.box ((aH z).map .d)),(12,.smap (kW z.apex (z.sets.take k)))]⟩,
  λk=>k<=z.sets.length,λk=>z.sets.length-k,⟨0,by omega,aC.keep ⟨ae,ae,ae,ae,ae,trivial⟩ ⟨ae,ae,trivial⟩⟩,λk hk=>?_⟩
 conv=>whnf
 refine af (λh1=>?_) (λh1=>?_) <;> (rw[h1];conv=>whnf)
 . have hlt:k<z.sets.length:=by simp at h1;omega
   obtain⟨s,hsk⟩:∃s,z.sets[k]? =some s:=⟨_,ai hlt⟩
   refine⟨aw k,ak s,aB hsk,?_⟩
   conv=>whnf
   have hm:kW z.apex (z.sets.take (k+1))=if qI z.apex s=true then bT s.set.name (.bool true) (kW z.apex (z.sets.take k))else kW z.apex (z.sets.take k):=by rw[bK hsk,AA]
   have again:∀st,aC cx st ⟨[(1,.ptr 1 0),(3,.omap 12),(14,.d (.slice 5 (z.sets.map ak))),(15,.d (.int .i64 ((z.sets.map ak).length:Int))),(16,.d (.int .i64 ((k+1:Nat):Int)))],[(1,.box ((aH z).map .d)),(12,.smap (kW z.apex (z.sets.take (k+1))))]⟩ ->
    ∃y:Nat,y<=z.sets.length/\z.sets.length-y<z.sets.length-k/\aC cx st ⟨[(1,.ptr 1 0),(3,.omap 12),(14,.d (.slice 5 (z.sets.map ak))),(15,.d (.int .i64 ((z.sets.map ak).length:Int))),(16,.d (.int .i64 y))],[(1,.box ((aH z).map .d)),(12,.smap (kW z.apex (z.sets.take y)))]⟩:=λst hw=>⟨k+1,hlt,by omega,hw⟩
   rw[hm]at again
   (refine af (λh=>?_) (λh=>?_) <;> (rw[h];conv=>whnf))
   . have hty:=h
     (refine af (λh=>?_) (λh=>?_) <;> (rw[h];conv=>whnf))
     . rw[if_pos (by rw[qI,hty];exact h)]at again;exact again _ (aC.keep ⟨ae,ae,ae,ae,⟨ao (by omega),rfl⟩,trivial⟩ ⟨ae,ae,trivial⟩)
     . rw[if_neg (by rw[qI,hty,gI];show ¬(!(s.set.name==z.apex))=true;rw[h];simp)]at again;exact again _ (aC.keep ⟨ae,ae,ae,ae,⟨ao (by omega),rfl⟩,trivial⟩ ⟨ae,ae,trivial⟩)
   . rw[if_neg (by rw[qI];show ¬((s.set.type==2)&&_)=true;rw[show(s.set.type==2)=false from h];simp)]at again;exact again _ (aC.keep ⟨ae,ae,ae,ae,⟨ao (by omega),rfl⟩,trivial⟩ ⟨ae,ae,trivial⟩)
 . obtain rfl:k=z.sets.length:=by simp at h1;omega
   refine⟨by omega,.inl rfl,by omega,by(simp only[an];omega),by(simp only[an];omega),?_⟩
   conv=>whnf
   refine⟨(Nat×Bs)×List Bool,λx=>⟨[(3,.omap 12),(6,.own 40),(7,.d (.str x.1.2)),(42,.d (.slice 5 (z.sets.map ak))),(43,.d (.int .i64 ((z.sets.map ak).length:Int))),(44,.d (.int .i64 x.1.1))],[(1,.box ((aH z).map .d)),(12,.smap (kW z.apex z.sets)),(40,.row 4 1 ((x.2++List.replicate (z.sets.length-x.1.1) false).map iW) true)]⟩,
    λx=>x.1.1<=z.sets.length/\x.2.length=x.1.1/\x.2++qp (ic z.apex z.sets) x.1.2 (z.sets.drop x.1.1)=nV z,λx=>z.sets.length-x.1.1,
    ⟨((0,[]),[]),⟨Nat.zero_le _,rfl,rfl⟩,aC.keep ⟨ae,ae,ae,ae,ae,ae,trivial⟩ ⟨ae,⟨by(show some (Blk.smap (kW z.apex (z.sets.take z.sets.length)))=some (Blk.smap _);rw[List.take_length]),rfl⟩,⟨by(show some (Blk.row _ _ (List.replicate ((z.sets.map ak).length:Int).toNat _) true)=some (Blk.row _ _ _ true);simp[iW];done),rfl⟩,trivial⟩⟩,?_⟩
   rintro⟨⟨k,cut⟩,acc⟩ ⟨hk,ha,hc⟩;simp only at hk ha hc
   conv=>whnf
   refine af (λh1=>?_) (λh1=>?_) <;> (rw[h1];conv=>whnf)
   . have hlt:k<z.sets.length:=by simp at h1;omega
     obtain⟨s,hsk⟩:∃s,z.sets[k]? =some s:=⟨_,ai hlt⟩
     rw[drop_cons hsk,qp]at hc;refine⟨aw k,ak s,aB hsk,?_⟩
     conv=>whnf
     obtain⟨r,hr⟩:∃r,bg s.set.name (kW z.apex z.sets)=r:=⟨_,rfl⟩
     rw[hr];rw[Kg]at hr;have again:∀c b,iN (ic z.apex z.sets) cut s=c->DP c s=b-> ∀st,aC cx st ⟨[(3,.omap 12),(6,.own 40),(7,.d (.str c)),(42,.d (.slice 5 (z.sets.map ak))),(43,.d (.int .i64 ((z.sets.map ak).length:Int))),(44,.d (.int .i64 ((k+1:Nat):Int)))],[(1,.box ((aH z).map .d)),(12,.smap (kW z.apex z.sets)),(40,.row 4 1 ((acc++[b]++List.replicate (z.sets.length-(k+1)) false).map iW) true)]⟩ ->
      ∃y:(Nat×Bs)×List Bool,(y.1.1<=z.sets.length/\y.2.length=y.1.1/\y.2++qp (ic z.apex z.sets) y.1.2 (z.sets.drop y.1.1)=nV z)/\z.sets.length-y.1.1<z.sets.length-k/\aC cx st ⟨[(3,.omap 12),(6,.own 40),(7,.d (.str y.1.2)),(42,.d (.slice 5 (z.sets.map ak))),(43,.d (.int .i64 ((z.sets.map ak).length:Int))),(44,.d (.int .i64 y.1.1))],[(1,.box ((aH z).map .d)),(12,.smap (kW z.apex z.sets)),(40,.row 4 1 ((y.2++List.replicate (z.sets.length-y.1.1) false).map iW) true)]⟩:=by
      rintro c b rfl rfl st hw;exact⟨((k+1,_),acc++[_]),⟨hlt,by(simp;omega),by(rw[<- hc,List.append_assoc];rfl)⟩,by(show z.sets.length-(k+1)<z.sets.length-k;omega),hw⟩
     have hrk:((acc++List.replicate (z.sets.length-k) false).map iW)[k]? =some [D.bool false]:=by
      rw[aM,bW (by omega),List.getElem?_replicate,if_pos (by omega)];rfl
     have hrl:k<((acc++List.replicate (z.sets.length-k) false).map iW).length:=by simp;omega
     have hset:∀b,some (Blk.row 4 1 (((acc++List.replicate (z.sets.length-k) false).map iW).set k [D.bool b]) true)=some (Blk.row 4 1 ((acc++[b]++List.replicate (z.sets.length-(k+1)) false).map iW) true):=λb=>by
      rw[show[D.bool b]=iW b from rfl, <- List.map_set,GL acc false b ha hlt]
     cases hcn:ic z.apex z.sets s.set.name with
     |true =>
      rw[if_pos hcn]at hr;subst hr;have hnx:iN (ic z.apex z.sets) cut s=s.set.name:=by rw[iN,if_pos hcn]
      have again:=again s.set.name
      conv=>whnf
      repeat' (first
       |(refine af (λh=>?_) (λh=>?_) <;> (rw[h];conv=>whnf))
       |(refine⟨aw k,hrl,?_⟩;conv=>whnf)
       |(refine⟨_,hrk,?_⟩;conv=>whnf)
       |exact again _ hnx (by(simp only[DP, *, if_true,if_false,aI];done)) _ (aC.keep ⟨ae,ae,ae,ae,ae,⟨ao (k:=k) (by omega),rfl⟩,trivial⟩ ⟨ae,ae,⟨hset _,rfl⟩,trivial⟩)
       |fail)
     |false =>
      rw[if_neg (by rw[hcn];simp)]at hr;subst hr;have hno:¬ic z.apex z.sets s.set.name=true:=by rw[hcn];simp
      have n1:(!(cut==[]))=true->(bo s.set.name cut).1=true->iN (ic z.apex z.sets) cut s=cut:=λh1 h2=>by rw[iN,if_neg hno,if_pos h1,if_pos h2]
      have n2:(!(cut==[]))=true->(bo s.set.name cut).1=false->iN (ic z.apex z.sets) cut s=[]:=λh1 h2=>by rw[iN,if_neg hno,if_pos h1,if_neg (by rw[h2];simp)]
      have n3:(!(cut==[]))=false->iN (ic z.apex z.sets) cut s=cut:=λh1=>by rw[iN,if_neg hno,if_neg (by rw[h1];simp)]
      clear hno
      conv=>whnf
      repeat' (first
       |(refine af (λh=>?_) (λh=>?_) <;> (rw[h];conv=>whnf))
       |(refine⟨_,_,mK s.set.name cut,?_⟩;conv=>whnf)
       |(refine⟨aw k,hrl,?_⟩;conv=>whnf)
       |(refine⟨_,hrk,?_⟩;conv=>whnf)
       |exact again cut _ (n1 (by assumption) (by simpa using (by assumption:(!(bo s.set.name cut).1)=false))) (by simp only[DP, *, if_true,if_false,aI];done) _ (aC.keep ⟨ae,ae,ae,ae,ae,⟨ao (k:=k) (by omega),rfl⟩,trivial⟩ ⟨ae,ae,⟨hset _,rfl⟩,trivial⟩)
       |exact again [] true (n2 (by assumption) (by simpa using (by assumption:(!(bo s.set.name cut).1)=true))) rfl _ (aC.keep ⟨ae,ae,ae,ae,ae,⟨ao (k:=k) (by omega),rfl⟩,trivial⟩ ⟨ae,ae,⟨hset _,rfl⟩,trivial⟩)
       |exact again cut _ (n3 (by assumption)) (by simp only[DP, *, if_true,if_false,aI];done) _ (aC.keep ⟨ae,ae,ae,ae,ae,⟨ao (k:=k) (by omega),rfl⟩,trivial⟩ ⟨ae,ae,⟨hset _,rfl⟩,trivial⟩)
       |fail)
   . obtain rfl:k=z.sets.length:=by simp at h1;omega
     rw[List.drop_length,qp,List.append_nil]at hc;refine aj rfl ?_;rw[<- hc,Nat.sub_self,List.replicate_zero,List.append_nil];rfl
end Go.Proofs.YtodofogcincleaaGreatDoor
namespace NP
open NQ Go
def zA(a b:dJ):Int:=cY a.n b.n
def Rk:List D->Int
 | .int _ n::_=>n
 |_=>0
def OR(x y:List D):Int:=cY (Rk x) (Rk y)
theorem Gb(l:List dJ):jV zA l:=jV.key (λz=>z.n) λx _ y _=>by unfold zA cY;split <;> (try split) <;> omega
theorem Lu(l:List dJ):fB OR (l.map cK)=(fB zA l).map cK:=Bf cK zA OR l λx _ y _=>rfl
def nu(l:List dJ):List dJ:=fB zA l
theorem yY(l:List dJ):(nu l).Perm l:=oH (Gb l)
def xx(z:aD)(keys:List dJ)(a b:Int):Bool:= !((decide ((keys.length:Int)<1)||decide ((keys.length:Int)>6))|| !qC a b|| !aR z)
def wO(l:List dJ)(i:Nat):Bool:=match l[i-1]?, l[i]? with|some p,some k=>decide ((i:Int)>0)&&(p.n==k.n)|_,_=>false
def xZ(l:List dJ):Bool:=(List.range l.length).any (wO l)
def BT(apex:Bs)(keys:List dJ)(a b:Int)(own:Bool)(s:Signed):Signed:=⟨s.set,if own=true then keys.map (λk=>xj s.set apex k a b)else[]⟩
def vz(apex:Bs)(keys:List dJ)(a b:Int):List Bool->List Signed->List Signed
 |o::os,s::t=>BT apex keys a b o s::vz apex keys a b os t
 |_,_=>[]
def BU(z:aD)(keys:List dJ)(a b:Int):aD:=⟨z.apex,vz z.apex keys a b (nV z) z.sets⟩
def kT(z:aD)(keys:List dJ)(a b:Int):aD×Int :=
 if xx z keys a b=false then(gJ,1)
 else if keys.all np=false then(gJ,1)
 else if xZ (nu keys)=true then(gJ,5)
 else(BU z (nu keys) a b,0)
end NP
namespace Go.Proofs.YtodofogcincleaaGreatDoor
open NQ Go NP Go.RowKit
theorem Pq(a b:dJ):NQ.Fn cx 43 [.agg (cK a),.agg (cK b)] (.d (.int .i64 (zA a b))) []:=by
 refine aK aV mixed Tryz.func43 (by kernel_rfl) rfl (ag rfl) ?_;conv=>whnf
 (refine⟨_,_,kg a.n b.n,?_⟩;conv=>whnf)
 exact aj rfl rfl
theorem Lt(l:List dJ)(hl:l.length<=100000)(fl:Bool):FnR cx 42 false 31 2 (l.map cK) fl [.fn 43 [] []] ((nu l).map cK):=by
 unfold nu;rw[<- Lu];exact Ef (cx:=cx) (ρ:=Tryz.yW) Tryz.RG (k:=2) Tryz.isAgg31 Tryz.sizeOf31 ⟨_,Tryz.func42,by kernel_rfl,rfl⟩
  (λx hx y hy=>by
   obtain⟨a,ha,rfl⟩:=List.mem_map.1 hx;obtain⟨b,hb,rfl⟩:=List.mem_map.1 hy;exact Pq a b) (enters_of Tryz.func43 (by kernel_rfl) rfl) ((Gb l).map λx _ y _=>rfl) (by rw[an];omega)
noncomputable def CN:Cx:={cx with chg:=fG [(42,2)]}
theorem Sq:aZ CN:=aV
theorem PZ:CN.P.follows .mixedOrders=true:=mixed
set_option maxHeartbeats 2000000 in
theorem JL(z:aD)(keys:List dJ)(a b:Int)(hl:keys.length<=100000):NQ.Fn CN 15 [.agg (aH z),.slice 2 (keys.map cK),.int .i64 a,.int .i64 b] (.tuple [.agg ((aH (kT z keys a b).1).map .d),.d (.int .i64 (kT z keys a b).2)]) []:=by
 refine eO (fun|10=>[88888]|34=>[300]|_=>[]) Sq PZ Tryz.func15 (by kernel_rfl) rfl (ag rfl) ?_;have bad:xx z keys a b=false->kT z keys a b=(gJ,1):=λh=>by rw[kT,if_pos h]
 have ha0:xx z keys a b= !((decide ((keys.length:Int)<1)||decide ((keys.length:Int)>6))|| !qC a b|| !aR z):=rfl
 conv=>whnf
 refine af (λh1=>?_) (λh1=>?_) <;> (rw[h1];conv=>whnf)
 . exact aj rfl (by rw[bad (by rw[ha0];simp only[an]at h1;simp only[h1,if_true,if_false,aI])];rfl)
 refine af (λh2=>?_) (λh2=>?_) <;> (rw[h2];conv=>whnf)
 . exact aj rfl (by rw[bad (by rw[ha0];simp only[an]at h2;simp only[h2,if_true,if_false,aI])];rfl)
 simp only[an]at h1 h2;rw[h1,h2]at ha0
 (refine⟨_,_,wz a b,?_⟩;conv=>whnf)
 obtain⟨q1,hq1⟩:∃q,qC a b=q:=⟨_,rfl⟩
 rw[hq1]at ha0 ⊢;cases q1 with
 |false =>
  conv=>whnf
  exact aj rfl (by rw[bad (by rw[ha0];simp only[if_true,if_false,aI])];rfl)
 |true =>
 conv=>whnf
 (refine⟨_,_,iw z,?_⟩;conv=>whnf)
 obtain⟨q1,hv⟩:∃q,aR z=q:=⟨_,rfl⟩
 rw[hv]at ha0 ⊢;cases q1 with
 |false =>
  conv=>whnf
  exact aj rfl (by rw[bad (by rw[ha0];simp only[if_true,if_false,aI])];rfl)
 |true =>
 conv=>whnf
 have hlen:1<=keys.length/\keys.length<=6:=by simp at h1 h2;omega
 clear bad h1 h2;have good:xx z keys a b=true:=by rw[ha0];rfl
 refine⟨Nat,λk=>⟨[(1,.d (.slice 2 (keys.map cK))),(2,.d (.int .i64 a)),(3,.d (.int .i64 b)),(4,.ptr 4 0),(8,.ptr 8 0),(44,.d (.slice 2 (keys.map cK))),(45,.d (.int .i64 ((keys.map cK).length:Int))),(46,.d (.int .i64 k))],[(4,.box ((aH z).map .d)),(8,.box [.d (.str []),.nil 5])]⟩,
  λk=>k<=keys.length/\(keys.take k).all np=true,λk=>keys.length-k,⟨0,⟨by omega,rfl⟩,aC.keep ⟨ae,ae,ae,ae,ae,ae,ae,ae,trivial⟩ ⟨ae,ae,trivial⟩⟩,?_⟩
 rintro k ⟨hk,hall⟩
 conv=>whnf
 refine af (λh1=>?_) (λh1=>?_) <;> (rw[h1];conv=>whnf)
 . have hlt:k<keys.length:=by simp at h1;omega
   obtain⟨q,hqk⟩:∃q,keys[k]? =some q:=⟨_,ai hlt⟩
   refine⟨aw k,cK q,aB hqk,?_⟩
   conv=>whnf
   (refine⟨_,_,wy q,?_⟩;conv=>whnf)
   obtain⟨q1,hq1⟩:∃x,np q=x:=⟨_,rfl⟩
   rw[hq1];cases q1 with
   |false =>
    conv=>whnf
    have hno:keys.all np=false:=by
     rw[List.all_eq_false];exact⟨q,au hqk,by rw[hq1];simp⟩
    exact aj rfl (by rw[kT,if_neg (by rw[good];simp),if_pos hno];rfl)
   |true =>
    conv=>whnf
    exact⟨k+1,⟨hlt,by rw[bK hqk,List.all_append,hall];simp[hq1]⟩,by(show keys.length-(k+1)<keys.length-k;omega),aC.keep ⟨ae,ae,ae,ae,ae,ae,ae,⟨ao (by omega),rfl⟩,trivial⟩ ⟨ae,ae,trivial⟩⟩
 obtain rfl:k=keys.length:=by simp at h1;omega
 rw[List.take_length]at hall;refine⟨by omega,.inl rfl,by omega,by(simp only[an];omega),by(simp only[an];omega),?_⟩
 conv=>whnf
 refine⟨by simp,?_⟩
 conv=>whnf
 refine⟨_,Lt keys (by omega) _,?_⟩
 conv=>whnf
 have hsl:(nu keys).length=keys.length:=(yY keys).length_eq;have hcont:kT z keys a b=if xZ (nu keys)=true then(gJ,5)else(BU z (nu keys) a b,0):=by rw[kT,if_neg (by rw[good];simp),if_neg (by rw[hall];simp)]
 have hokS:∀k∈nu keys,np k=true:=λk hk=>ay.1 hall k ((yY keys).mem_iff.1 hk)
 generalize nu keys=K at hsl hcont hokS ⊢
 refine⟨Nat,λk=>⟨[(2,.d (.int .i64 a)),(3,.d (.int .i64 b)),(4,.ptr 4 0),(8,.ptr 8 0),(12,.own 57),(63,.own 57),(64,.d (.int .i64 ((K.map cK).length:Int))),(65,.d (.int .i64 k))],[(4,.box ((aH z).map .d)),(8,.box [.d (.str []),.nil 5]),(57,.row 31 2 (K.map cK))]⟩,
  λk=>k<=K.length/\(List.range k).any (wO K)=false,λk=>K.length-k,⟨0,⟨by omega,rfl⟩,aC.keep ⟨ae,ae,ae,ae,ae,ae,ae,ae,trivial⟩ ⟨ae,ae,ae,trivial⟩⟩,?_⟩
 rintro k ⟨hk,hnd⟩
 conv=>whnf
 refine af (λh1=>?_) (λh1=>?_) <;> (rw[h1];conv=>whnf)
 . have hlt:k<K.length:=by simp at h1;omega
   obtain⟨q,hqk⟩:∃q,K[k]? =some q:=⟨_,ai hlt⟩
   refine⟨aw k,by(show k<_;rw[an];exact hlt),?_⟩
   conv=>whnf
   refine⟨cK q,aB hqk,?_⟩
   conv=>whnf
   have found:wO K k=true->kT z keys a b=(gJ,5):=λh=>by
    rw[hcont,if_pos (show xZ K=true from List.any_eq_true.2 ⟨k,List.mem_range.2 hlt,h⟩)]
   have again:wO K k=false->(List.range (k+1)).any (wO K)=false:=λh=>by rw[List.range_succ,List.any_append,hnd];simp[h]
   obtain⟨p,hpk⟩:∃p,K[k-1]? =some p:=⟨_,ai (by omega)⟩
   have hdk:wO K k=(decide ((k:Int)>0)&&(p.n==q.n)):=by rw[wO,hpk,hqk]
   rw[hdk]at found again
   repeat' (first
    |(refine⟨(by kernel_rfl:bE _ _=true),?_⟩;conv=>whnf)
    |(refine af (λh=>?_) (λh=>?_) <;> (rw[h];conv=>whnf))
    |(refine⟨(lG (by assumption) (by omega)).1,by(show(IntKind.i64.wrap ((k:Int)-1)).toNat<_;rw[(lG (by assumption) (by omega)).2,an];omega),?_⟩;conv=>whnf)
    |(refine⟨cK p,kr (by assumption) (by omega) hpk,?_⟩;conv=>whnf)
    |exact aj rfl (by rw[found (by simp only[*, if_true,if_false,aI];done)];rfl)
    |exact⟨k+1,⟨hlt,again (by simp only[*, if_true,if_false,aI];done)⟩,by(show K.length-(k+1)<K.length-k;omega),aC.keep ⟨ae,ae,ae,ae,ae,ae,ae,⟨ao (by omega),rfl⟩,trivial⟩ ⟨ae,ae,ae,trivial⟩⟩
    |fail)
 obtain rfl:k=K.length:=by simp at h1;omega
 have ho:=bX hv;rw[hcont,if_neg (by rw[xZ,hnd];simp)];clear hcont hnd ha0 good hall
 (refine⟨_,_,IF z (by have:=ho.few;omega),?_⟩;conv=>whnf)
 (refine⟨(by kernel_rfl:bE _ _=true),?_⟩;conv=>whnf)
 have hfew:=ho.few;refine⟨by omega,.inl rfl,by omega,by(simp only[an];omega),by(simp only[an];omega),?_⟩
 conv=>whnf
 have howl:(nV z).length=z.sets.length:=AS _ _ _;have hsm:=jQ hv;refine⟨Nat×List Signed,λx=>⟨[(2,.d (.int .i64 a)),(3,.d (.int .i64 b)),(4,.ptr 4 0),(8,.ptr 8 0),(12,.own 57),(15,.d (.slice 1 ((nV z).map iW))),(16,.ptr 16 0),(95,.d (.slice 5 (z.sets.map ak))),(96,.d (.int .i64 ((z.sets.map ak).length:Int))),(97,.d (.int .i64 x.1))],[(4,.box ((aH z).map .d)),(8,.box [.d (.str []),.nil 5]),(16,.box [.d (.str z.apex),.own 92]),(57,.row 31 2 (K.map cK)),(92,.row 68 5 ((x.2++List.replicate (z.sets.length-x.1) iv).map ak) true)]⟩,
  λx=>x.1<=z.sets.length/\x.2.length=x.1/\x.2++vz z.apex K a b ((nV z).drop x.1) (z.sets.drop x.1)=(BU z K a b).sets,λx=>z.sets.length-x.1,
  ⟨(0,[]),⟨Nat.zero_le _,rfl,rfl⟩,aC.keep ⟨ae,ae,ae,ae,ae,ae,ae,ae,ae,ae,trivial⟩ ⟨ae,ae,ae,ae,⟨by(show some (Blk.row _ _ (List.replicate ((z.sets.map ak).length:Int).toNat _) true)=some (Blk.row _ _ _ true);simp[ak,iv];done),rfl⟩,trivial⟩⟩,?_⟩
 rintro⟨k,acc⟩ ⟨hk,hac,hc⟩;simp only at hk hac hc
 conv=>whnf
 refine af (λh1=>?_) (λh1=>?_) <;> (rw[h1];conv=>whnf)
 . have hlt:k<z.sets.length:=by simp at h1;omega
   obtain⟨s,hsk⟩:∃s,z.sets[k]? =some s:=⟨_,ai hlt⟩
   obtain⟨o,hok⟩:∃o,(nV z)[k]? =some o:=⟨_,ai (by omega)⟩
   rw[drop_cons hsk,drop_cons hok,vz]at hc;have hss:=(hsm s (au hsk)).1;refine⟨aw k,ak s,aB hsk,?_⟩
   conv=>whnf
   (refine⟨_,_,mo _ (by rw[an];omega),?_⟩;conv=>whnf)
   refine⟨aw k,iW o,aB hok,?_⟩
   conv=>whnf
   have hrk:((acc++List.replicate (z.sets.length-k) iv).map ak)[k]? =some (ak iv):=by
    rw[aM,bW (by omega),List.getElem?_replicate,if_pos (by omega)];rfl
   have hrl:k<((acc++List.replicate (z.sets.length-k) iv).map ak).length:=by simp;omega
   have hset:∀t:Signed,some (Blk.row 68 5 (((acc++List.replicate (z.sets.length-k) iv).map ak).set k (ak t)) true)=some (Blk.row 68 5 ((acc++[t]++List.replicate (z.sets.length-(k+1)) iv).map ak) true):=λt=>by
    rw[<- List.map_set,GL acc iv t hac hlt]
   have again:∀t,BT z.apex K a b o s=t-> ∀st,aC CN st ⟨[(2,.d (.int .i64 a)),(3,.d (.int .i64 b)),(4,.ptr 4 0),(8,.ptr 8 0),(12,.own 57),(15,.d (.slice 1 ((nV z).map iW))),(16,.ptr 16 0),(95,.d (.slice 5 (z.sets.map ak))),(96,.d (.int .i64 ((z.sets.map ak).length:Int))),(97,.d (.int .i64 ((k+1:Nat):Int)))],[(4,.box ((aH z).map .d)),(8,.box [.d (.str []),.nil 5]),(16,.box [.d (.str z.apex),.own 92]),(57,.row 31 2 (K.map cK)),(92,.row 68 5 ((acc++[t]++List.replicate (z.sets.length-(k+1)) iv).map ak) true)]⟩ ->
    ∃y:Nat×List Signed,(y.1<=z.sets.length/\y.2.length=y.1/\y.2++vz z.apex K a b ((nV z).drop y.1) (z.sets.drop y.1)=(BU z K a b).sets)/\z.sets.length-y.1<z.sets.length-k/\aC CN st ⟨[(2,.d (.int .i64 a)),(3,.d (.int .i64 b)),(4,.ptr 4 0),(8,.ptr 8 0),(12,.own 57),(15,.d (.slice 1 ((nV z).map iW))),(16,.ptr 16 0),(95,.d (.slice 5 (z.sets.map ak))),(96,.d (.int .i64 ((z.sets.map ak).length:Int))),(97,.d (.int .i64 y.1))],[(4,.box ((aH z).map .d)),(8,.box [.d (.str []),.nil 5]),(16,.box [.d (.str z.apex),.own 92]),(57,.row 31 2 (K.map cK)),(92,.row 68 5 ((y.2++List.replicate (z.sets.length-y.1) iv).map ak) true)]⟩:=by
    rintro t rfl st hw;exact⟨(k+1,acc++[_]),⟨hlt,by(simp;omega),by(rw[<- hc,List.append_assoc];rfl)⟩,by(show z.sets.length-(k+1)<z.sets.length-k;omega),hw⟩
   cases o with
   |false =>
    conv=>whnf
    refine⟨aw k,hrl,?_⟩
    conv=>whnf
    refine⟨_,hrk,?_⟩
    conv=>whnf
    exact again ⟨s.set,[]⟩ rfl _ (aC.keep ⟨ae,ae,ae,ae,ae,ae,ae,ae,ae,⟨ao (k:=k) (by omega),rfl⟩,trivial⟩ ⟨ae,ae,ae,ae,⟨hset ⟨s.set,[]⟩,rfl⟩,trivial⟩)
   |true =>
    conv=>whnf
    refine⟨Nat,λj=>⟨[(2,.d (.int .i64 a)),(3,.d (.int .i64 b)),(4,.ptr 4 0),(8,.ptr 8 0),(12,.own 57),(15,.d (.slice 1 ((nV z).map iW))),(16,.ptr 16 0),(17,.d (.int .i64 k)),(19,.ptr 19 0),(95,.d (.slice 5 (z.sets.map ak))),(96,.d (.int .i64 ((z.sets.map ak).length:Int))),(97,.d (.int .i64 k)),(115,.own 57),(116,.d (.int .i64 ((K.map cK).length:Int))),(117,.d (.int .i64 j))],[(4,.box ((aH z).map .d)),(8,.box [.d (.str []),.nil 5]),(16,.box [.d (.str z.apex),.own 92]),(19,.box [.d (.str s.set.name),.d (.int .i64 s.set.type),.d (.int .i64 s.set.life),.d (.slice 3 (s.set.data.map aG)),.own 300]),(57,.row 31 2 (K.map cK)),(92,.row 68 5 ((acc++List.replicate (z.sets.length-k) iv).map ak) true),(300,.row 109 6 (((K.take j).map λq=>xj s.set z.apex q a b).map mE))]⟩,
     λj=>j<=K.length,λj=>K.length-j,
     ⟨0,Nat.zero_le _,(aC.il 19 4 300 6 [.d (.str s.set.name),.d (.int .i64 s.set.type),.d (.int .i64 s.set.life),.d (.slice 3 (s.set.data.map aG)),.nil 6] 109 6 rfl rfl rfl (by decide)).trans (aC.keep ⟨ae,ae,ae,ae,ae,ae,ae,ae,ae,ae,ae,ae,ae,ae,ae,trivial⟩ ⟨ae,ae,ae,ae,ae,ae,ae,trivial⟩)⟩,?_⟩
    intro j hj
    conv=>whnf
    refine af (λh2=>?_) (λh2=>?_) <;> (rw[h2];conv=>whnf)
    . have hlt2:j<K.length:=by simp at h2;omega
      obtain⟨q,hqj⟩:∃q,K[j]? =some q:=⟨_,ai hlt2⟩
      refine⟨aw j,by(show j<_;rw[an];exact hlt2),?_⟩
      conv=>whnf
      refine⟨cK q,aB hqj,?_⟩
      conv=>whnf
      have hsign:qw s.set z.apex q a b=(xj s.set z.apex q a b,0):=by
       rw[qw,if_pos];rw[yQ,hokS q (au hqj),hq1,ho.apex,ho.tame,ho.set s (au hsk),ho.under s (au hsk)];rfl
      have fS:=Qy s.set z.apex q a b;rw[hsign]at fS
      (refine⟨_,_,fS,?_⟩;conv=>whnf)
      refine⟨by(show(List.map mE _).length+1<=_;rw[an,an,List.length_take];omega),by(show((List.map mE _).length+1)*56<=_;rw[an,an,List.length_take];omega),?_⟩
      conv=>whnf
      exact⟨j+1,hlt2,by(show K.length-(j+1)<K.length-j;omega),aC.keep ⟨ae,ae,ae,ae,ae,ae,ae,ae,ae,ae,ae,ae,ae,ae,⟨ao (by omega),rfl⟩,trivial⟩ ⟨ae,ae,ae,ae,ae,ae,⟨by(show some (Blk.row _ _ (_++_))=some (Blk.row _ _ _);rw[bK hqj,List.map_append,List.map_append];rfl),rfl⟩,trivial⟩⟩
    . obtain rfl:j=K.length:=by simp at h2;omega
      refine⟨aw k,hrl,?_⟩
      conv=>whnf
      refine⟨_,hrk,?_⟩
      conv=>whnf
      have e:BT z.apex K a b true s=⟨s.set,(K.take K.length).map λq=>xj s.set z.apex q a b⟩:=by rw[BT,if_pos rfl,List.take_length]
      exact again _ e _ (aC.keep ⟨ae,ae,ae,ae,ae,ae,ae,ae,ae,⟨ao (k:=k) (by omega),rfl⟩,trivial⟩ ⟨ae,ae,ae,ae,⟨hset ⟨s.set,(K.take K.length).map λq=>xj s.set z.apex q a b⟩,rfl⟩,trivial⟩)
 . obtain rfl:k=z.sets.length:=by simp at h1;omega
   rw[List.drop_length,List.drop_of_length_le (by omega),show vz z.apex K a b [] []=[]from rfl,List.append_nil]at hc;refine aj rfl ?_;rw[Nat.sub_self,List.replicate_zero,List.append_nil,hc];rfl
end Go.Proofs.YtodofogcincleaaGreatDoor
namespace NP
open NQ Go
def pO:cu:=⟨[],0,0,[]⟩
def isF(s:Bs)(kind:Int)(x:Signed):Bool:=(x.set.name==s)&&(x.set.type==kind)
def sm(z:aD)(s:Bs)(kind:Int):Option Signed:=z.sets.find? (isF s kind)
def wfR(z:aD)(s:Bs)(kind:Int):cu×Bool:=match sm z s kind with|some x=>(x.set,true)|none=>(pO,false)
theorem kn{α:Type}(p:α->Bool):∀l:List α,(match l.findIdx? p with|some k=>l[k]? |none=>none)=l.find? p
 |[]=>rfl
 |x::t=>by
  rw[List.findIdx?_cons,List.find?_cons];cases h:p x with
  |true=>rfl
  |false =>
   have ih:=kn p t;cases hi:t.findIdx? p with
   |none=>rw[hi]at ih;simpa using ih
   |some k=>rw[hi]at ih;simpa using ih
def eN(z:aD):Int:=match sm z z.apex 4 with|some x=>(match x.set.data with|d::_=>d.n|[]=>0)|none=>0
def CD(b p:al):Int:=if cY (eN b.zone) (eN p.zone)=0 then cY p.host b.host else cY (eN b.zone) (eN p.zone)
def mi(apex:Bs)(b:Option (Nat×al))(i:Nat)(p:al):Option (Nat×al):=if (p.zone.apex != apex)=true then b else match b with|none=>some (i,p)|some (j,q)=>if CD q p<0 then some (i,p)else some (j,q)
def kH(apex:Bs):Option (Nat×al)->Nat->List al->Option (Nat×al)
 |b,_,[]=>b
 |b,i,p::t=>kH apex (mi apex b i p) (i+1) t
def sd(zs:List al)(apex:Bs):Option (Nat×al):=kH apex none 0 zs
def bS(zs:List al)(apex:Bs):aD×Bool:=match sd zs apex with|some (_,p)=>(p.zone,true)|none=>(gJ,false)
end NP
namespace Go.Proofs.YtodofogcincleaaGreatDoor
open NQ Go NP Go.RowKit
theorem uN(x:Signed)(s:Bs)(kind:Int):NQ.Fn cx 178 [.agg (ak x),.ptr [.str s],.ptr [.int .i64 kind]] (.d (.bool (isF s kind x))) []:=by
 refine aK aV mixed Tryz.func178 (by kernel_rfl) rfl (ag rfl) ?_;conv=>whnf
 repeat' (first
  |(refine af (λh=>?_) (λh=>?_) <;> (rw[h];conv=>whnf))
  |(refine aj rfl ?_;show AV.d (D.bool _)=_;simp only[isF, *, if_true,if_false,aI];done)
  |fail)
theorem wU(l:List Signed)(p:Signed->Bool)(x y:D)(hn:l.length<=100000)(hf:∀s∈l,NQ.Fn cx 178 [.agg (ak s),x,y] (.d (.bool (p s))) []) :
 NQ.Fn cx 177 [.slice 5 (l.map ak),.fn 178 [] [x,y]] (.d (.int .i64 (match l.findIdx? p with|some k=>(k:Int)|none=> -1))) []:=by
 refine aK aV mixed Tryz.func177 (by kernel_rfl) rfl (ag rfl) ?_;conv=>whnf
 refine⟨Nat,λk=>⟨[(0,.d (.slice 5 (l.map ak))),(1,.d (.fn 178 [] [x,y])),(7,.d (.int .i64 ((l.map ak).length:Int))),(8,.d (.int .i64 k))],[]⟩,λk=>k<=l.length/\ ∀j y,j<k->l[j]? =some y->p y=false,λk=>l.length-k,
  ⟨0,⟨by omega,λj y h=>by omega⟩,aC.keep ⟨ae,ae,ae,ae,trivial⟩ trivial⟩,λk hk=>?_⟩
 obtain⟨hk,hall⟩:=hk
 conv=>whnf
 refine af (λh1=>?_) (λh1=>?_) <;> (rw[h1];conv=>whnf)
 . have hlt:k<l.length:=by simp at h1;omega
   obtain⟨s,hs⟩:∃s,l[k]? =some s:=⟨_,ai hlt⟩
   refine⟨aw k,ak s,aB hs,?_⟩
   conv=>whnf
   (refine⟨_,_,hf s (au hs),?_⟩;conv=>whnf)
   refine af (λh2=>?_) (λh2=>?_) <;> (rw[h2];conv=>whnf)
   . refine aj rfl ?_;have:l.findIdx? p=some k:=by
      rw[List.findIdx?_eq_some_iff_getElem];obtain⟨g1,g2⟩:=aq.1 hs;refine⟨g1,by rw[g2];exact h2,λj hj=>?_⟩;have:=hall j (l[j]) hj (ai (by omega));rw[this];decide
     rw[this];rfl
   . refine⟨k+1,⟨hlt,λj y hj hy=>?_⟩,by(show l.length-(k+1)<l.length-k;omega),aC.keep ⟨ae,ae,ae,⟨ao (by omega),rfl⟩,trivial⟩ trivial⟩;rcases Nat.lt_succ_iff_lt_or_eq.1 hj with hj|rfl
     . exact hall j y hj hy
     . rw[hs]at hy;cases hy;exact h2
 . obtain rfl:k=l.length:=by simp at h1;omega
   refine aj rfl ?_;have:l.findIdx? p=none:=by
    rw[List.findIdx?_eq_none_iff];intro x hx;obtain⟨i,hi⟩:=ck hx;exact hall i x (aq.1 hi).1 hi
   rw[this];rfl
theorem lO(z:aD)(s:Bs)(kind:Int)(hn:z.sets.length<=100000):NQ.Fn cx 110 [.agg (aH z),.str s,.int .i64 kind] (.tuple [.agg ((bN (wfR z s kind).1).map .d),.d (.bool (wfR z s kind).2)]) []:=by
 refine aK aV mixed Tryz.func110 (by kernel_rfl) rfl (ag rfl) ?_;conv=>whnf
 (refine⟨_,wU z.sets (isF s kind) _ _ hn (λx _=>uN x s kind),rfl,?_⟩;conv=>whnf)
 have hfi:=kn (isF s kind) z.sets;have hfr:wfR z s kind=match z.sets.find? (isF s kind)with|some x=>(x.set,true)|none=>(pO,false):=rfl
 cases hi:z.sets.findIdx? (isF s kind)with
 |none =>
  rw[hi]at hfi;rw[<- hfi]at hfr
  conv=>whnf
  exact aj rfl (by rw[hfr];rfl)
 |some k =>
  rw[hi]at hfi;obtain⟨hlt,_⟩:=List.findIdx?_eq_some_iff_getElem.1 hi;obtain⟨x,hx⟩:∃x,z.sets[k]? =some x:=⟨_,ai hlt⟩
  rw[<- hfi]at hfr;simp only[hx]at hfr
  conv=>whnf
  refine⟨aw k,ak x,aB hx,?_⟩
  conv=>whnf
  exact aj rfl (by rw[hfr];rfl)
theorem yM(z:aD)(hn:z.sets.length<=100000)(hs:∀s∈z.sets,dC s.set=true):NQ.Fn cx 109 [.agg (aH z)] (.d (.int .i64 (eN z))) []:=by
 refine aK aV mixed Tryz.func109 (by kernel_rfl) rfl (ag rfl) ?_;conv=>whnf
 (refine⟨_,_,lO z z.apex 4 hn,?_⟩;conv=>whnf)
 cases hf:sm z z.apex 4 with
 |none =>
  have e:wfR z z.apex 4=(pO,false):=by rw[wfR,hf]
  rw[e]
  conv=>whnf
  exact aj rfl (by rw[eN,hf];rfl)
 |some x =>
  have e:wfR z z.apex 4=(x.set,true):=by rw[wfR,hf]
  rw[e]
  conv=>whnf
  have hx:=List.mem_of_find?_eq_some hf;obtain⟨d0,hd⟩:=uA (hs x hx);obtain⟨d,t,hdt⟩:∃d t,x.set.data=d::t:=by
   cases hdd:x.set.data with
   |nil=>rw[hdd]at hd;simp at hd
   |cons d t=>exact⟨d,t,rfl⟩
  refine⟨by decide,aG d,by rw[hdt];rfl,?_⟩
  conv=>whnf
  have e:eN z=d.n:=by simp only[eN,hf,hdt]
  exact aj rfl (by rw[e];rfl)
abbrev rh(l:List Signed):Blk:= .row 68 5 (l.map ak)
noncomputable def cxW:Cx:={cx with chg:=fG []}
theorem tyW:aZ cxW:=aV
theorem rE:cxW.P.follows .mixedOrders=true:=mixed
end Go.Proofs.YtodofogcincleaaGreatDoor
namespace NP
open NQ Go
structure aY where
 w:aL
 since:Int
 till:Int
 zone:aD
 life:Int
 got:List (Bs×List Int)
 puts:List al
 stages:List (List al)
def cg(l:List al):List D:=[.slice 3 (l.map aA)]
def fK(g:List (Bs×List Int)):List (Bs×D):=g.map λp=>(p.1,.slice 1 (p.2.map cB))
end NP
namespace Go.Proofs.YtodofogcincleaaGreatDoor
open NQ Go NP Go.RowKit
def NM(v:Bool)(o:aY):List AV:=match v with
 |true=>(bt o.w).map .d++[.d (.int .i64 o.since),.d (.int .i64 o.till),.d (.str o.zone.apex),.d (.slice 5 (o.zone.sets.map ak)),.d (.int .i64 o.life),.omap 90032,.own 90040,.own 90041]
 |false=>(bt o.w).map .d++[.d (.int .i64 0),.d (.int .i64 0),.d (.str []),.nil 5,.d (.int .i64 0),.d .nmap,.nil 3,.nil 1]
def fm(w:aL):List AV:=(bt w).map .d++[.undef,.undef,.undef,.undef,.undef,.undef,.undef,.undef]
theorem GF(a b:Int):kx [a,b]=if a=0 then b else a:=by
 unfold kx;by_cases h:a=0
 . subst h;by_cases h' :b=0
   . subst h';rfl
   . rw[List.find?_cons_of_neg (by simp),List.find?_cons_of_pos (by simpa using h')];rfl
 . rw[List.find?_cons_of_pos (by simpa using h),if_neg h];rfl
theorem gZ(w:aL)(apex:Bs)(hv:∀p∈w.zones,aR p.zone=true)(hn:w.zones.length<=100000) :
 FnP cxW pv0 62 [.agg (fm w),.d (.str apex)] [] (some (.tuple [.agg ((aH (bS w.zones apex).1).map .d),.d (.bool (bS w.zones apex).2)],[])):=by
 refine aS [] (fun|0=>[33333]|_=>[]) tyW rE Tryz.func62 (by kernel_rfl) rfl (ag rfl) (ag rfl) rfl ?_;have hsv:∀p∈w.zones,p.zone.sets.length<=100000/\ ∀s∈p.zone.sets,dC s.set=true:=λp hp=>by
  have ho:=bX (hv p hp);exact⟨by have:=ho.few;omega,ho.set⟩
 have step:∀b k p,w.zones[k]? =some p->kH apex b k (w.zones.drop k)=kH apex (mi apex b k p) (k+1) (w.zones.drop (k+1)):=λb k p hp=>by rw[drop_cons hp];rfl
 conv=>whnf
 refine⟨Nat×Option (Nat×al),λx=>⟨[(1,.d (.str apex)),(2,.ptr 2 0),(4,.ptr 4 0),(6,.d (.int .i64 (match x.2 with|some (j,_)=>(j:Int)|none=> -1))),(12,.d (.slice 3 (w.zones.map aA))),(13,.d (.int .i64 ((w.zones.map aA).length:Int))),(14,.d (.int .i64 x.1))],[(2,.box (fm w)),(4,.box [.d (.str []),.nil 5])]⟩,
  λx=>x.1<=w.zones.length/\kH apex x.2 x.1 (w.zones.drop x.1)=sd w.zones apex/\ ∀j q,x.2=some (j,q)->w.zones[j]? =some q/\j<x.1,λx=>w.zones.length-x.1,
  ⟨(0,none),⟨Nat.zero_le _,rfl,λj q h=>by cases h⟩,ah.keep⟩,?_⟩
 rintro⟨k,b⟩ ⟨hk,hb,hj⟩;simp only at hk hb hj
 conv=>whnf
 refine af (λh1=>?_) (λh1=>?_) <;> (rw[h1];conv=>whnf)
 . have hlt:k<w.zones.length:=by simp at h1;omega
   obtain⟨p,hp⟩:∃p,w.zones[k]? =some p:=⟨_,ai hlt⟩
   have hpm:=hsv p (au hp);rw[step b k p hp]at hb;unfold mi at hb;refine⟨aw k,aA p,aB hp,?_⟩
   conv=>whnf
   have again:∀b',kH apex b' (k+1) (w.zones.drop (k+1))=sd w.zones apex->(∀j q,b' =some (j,q)->w.zones[j]? =some q/\j<k+1)-> ∀st,ah cxW [] st ⟨[(1,.d (.str apex)),(2,.ptr 2 0),(4,.ptr 4 0),(6,.d (.int .i64 (match b' with|some (j,_)=>(j:Int)|none=> -1))),(12,.d (.slice 3 (w.zones.map aA))),(13,.d (.int .i64 ((w.zones.map aA).length:Int))),(14,.d (.int .i64 ((k+1:Nat):Int)))],[(2,.box (fm w)),(4,.box [.d (.str []),.nil 5])]⟩ ->
    ∃y:Nat×Option (Nat×al),(y.1<=w.zones.length/\kH apex y.2 y.1 (w.zones.drop y.1)=sd w.zones apex/\ ∀j q,y.2=some (j,q)->w.zones[j]? =some q/\j<y.1)/\w.zones.length-y.1<w.zones.length-k/\ah cxW [] st ⟨[(1,.d (.str apex)),(2,.ptr 2 0),(4,.ptr 4 0),(6,.d (.int .i64 (match y.2 with|some (j,_)=>(j:Int)|none=> -1))),(12,.d (.slice 3 (w.zones.map aA))),(13,.d (.int .i64 ((w.zones.map aA).length:Int))),(14,.d (.int .i64 y.1))],[(2,.box (fm w)),(4,.box [.d (.str []),.nil 5])]⟩:=λb' e1 e2 st hw=>⟨(k+1,b'),⟨hlt,e1,e2⟩,by(show w.zones.length-(k+1)<w.zones.length-k;omega),hw⟩
   refine af (λh2=>?_) (λh2=>?_) <;> (rw[h2];conv=>whnf)
   . rw[if_pos (show(p.zone.apex != apex)=true from h2)]at hb;exact again b hb (λj q e=>by obtain⟨e1,e2⟩:=hj j q e;exact⟨e1,by omega⟩) _ (ah.keep ⟨ae,ae,ae,ae,ae,ae,⟨ao (k:=k) (by omega),rfl⟩,trivial⟩)
   rw[if_neg (show ¬(p.zone.apex != apex)=true by(show ¬(!(p.zone.apex==apex))=true);rw[h2];simp)]at hb;cases b with
   |none =>
    conv=>whnf
    exact again (some (k,p)) hb (λj q e=>by cases e;exact⟨hp,Nat.lt_succ_self _⟩) _ (ah.keep ⟨ae,ae,ae,ae,ae,ae,⟨ao (k:=k) (by omega),rfl⟩,trivial⟩)
   |some jq =>
   obtain⟨j,q⟩:=jq;obtain⟨hq,hjk⟩:=hj j q rfl;have hqm:=hsv q (au hq);dsimp only at hb
   conv=>whnf
   refine⟨aw j,aA q,aB hq,?_⟩
   conv=>whnf
   have hor:kx [cY (eN q.zone) (eN p.zone),cY p.host q.host]=CD q p:=GF _ _;have fO:=BQ [cY (eN q.zone) (eN p.zone),cY p.host q.host] (by simp);rw[hor]at fO
   (refine⟨(by kernel_rfl:bE _ _=true),?_⟩;conv=>whnf)
   (refine⟨_,_,yM q.zone hqm.1 hqm.2,?_⟩;conv=>whnf)
   (refine⟨_,_,yM p.zone hpm.1 hpm.2,?_⟩;conv=>whnf)
   (refine⟨_,_,kg (eN q.zone) (eN p.zone),?_⟩;conv=>whnf)
   (refine⟨_,_,kg p.host q.host,?_⟩;conv=>whnf)
   (refine⟨_,fO,by kernel_rfl,?_⟩;conv=>whnf)
   refine af (λh3=>?_) (λh3=>?_) <;> (rw[h3];conv=>whnf)
   . rw[if_pos (by simpa using h3)]at hb;exact again (some (k,p)) hb (λj q e=>by cases e;exact⟨hp,Nat.lt_succ_self _⟩) _ (ah.keep ⟨ae,ae,ae,ae,ae,ae,⟨ao (k:=k) (by omega),rfl⟩,trivial⟩)
   . rw[if_neg (by simpa using h3)]at hb;exact again (some (j,q)) hb (λj' q' e=>by cases e;exact⟨hq,by omega⟩) _ (ah.keep ⟨ae,ae,ae,ae,ae,ae,⟨ao (k:=k) (by omega),rfl⟩,trivial⟩)
 . obtain rfl:k=w.zones.length:=by simp at h1;omega
   rw[List.drop_length,kH]at hb;have hcw:sd w.zones apex=b:=hb.symm;cases b with
   |none =>
    have hz:bS w.zones apex=(gJ,false):=by rw[bS,hcw]
    conv=>whnf
    exact bF rfl (by rw[hz];rfl) (by rw[hz];rfl)
   |some jq =>
    obtain⟨j,q⟩:=jq;obtain⟨hq,hjk⟩:=hj j q rfl;have hz:bS w.zones apex=(q.zone,true):=by rw[bS,hcw]
    conv=>whnf
    refine⟨aw j,aA q,aB hq,?_⟩
    conv=>whnf
    exact bF rfl (by rw[hz];rfl) (by rw[hz];rfl)
end Go.Proofs.YtodofogcincleaaGreatDoor
namespace NP
open NQ Go
def pB(s:Bs):Bool:=aQ s&&(s != [42])&& !(Go.Lib.hasPrefix s [42,46])
def zP(k:dJ):Bool:=decide (1<=k.n)&&decide (k.n<=1000000)&&decide (1<=k.alg)&&decide (k.alg<=3)
def bn(w:aL)(n:Int):Bool:=decide (0<=n)&&decide (n<(w.hosts.length:Int))
def nameAt(w:aL)(n:Int):Bs:=match w.hosts[n.toNat]? with|some h=>h.name|none=>[]
def kq(w:aL):List Bs->List Int->Bool
 |_,[]=>true
 |seen,n::t=>bn w n&& !(seen.contains (nameAt w n))&&kq w (seen++[nameAt w n]) t
def fw(w:aL)(l:List Int):Bool:= !(decide ((l.length:Int)<1)||decide ((l.length:Int)>8))&&kq w [] l
def oE(l:List Bs):List (Bs×D):=l.map λa=>(a,.bool true)
theorem oF(a:Bs):∀l:List Bs,bg a (oE l)=if l.contains a=true then some (.bool true)else none
 |[]=>rfl
 |x::l=>by
  show(if a=x then _ else bg a (oE l))=_
  by_cases h:a=x
  . subst h;simp
  . rw[if_neg h,oF a l,List.contains_cons,show(a==x)=false by simpa using h,ir]
theorem Lq{a:Bs}{l:List Bs}(h:l.contains a=false):bT a (.bool true) (oE l)=oE (l++[a]):=by
 rw[kP (by rw[oF,h];rfl)];simp[oE]
def yO(a b:Signed):Int:=if (dW a.set.name b.set.name).1=0 then cY a.set.type b.set.type else(dW a.set.name b.set.name).1
def kM(z:aD)(s:Bs)(kind:Int)(data:List Datum):Bool:=(wfR z s kind).2&&((wfR z s kind).1.data==data)
end NP
namespace Go.Proofs.YtodofogcincleaaGreatDoor
open NQ Go NP Go.RowKit
theorem mg(s a:Bs):NQ.Fn cx 134 [.str s,.str a] (.d (.bool (bo s a).1)) []:=by
 refine aK aV mixed Tryz.func134 (by kernel_rfl) rfl (ag rfl) ?_;conv=>whnf
 (refine⟨_,_,mK s a,?_⟩;conv=>whnf)
 have hu:(bo s a).1=true->(bo s a).2=0:=by
  unfold bo;split
  . intro _;rfl
  . intro h;cases h
 repeat' (first|(refine af (λh=>?_) (λh=>?_) <;> (rw[h];conv=>whnf))|fail)
 all_goals (refine aj rfl ?_;show AV.d (D.bool _)=AV.d (D.bool _);congr 2;try simp_all)
theorem QX(s:Bs):NQ.Fn cx 95 [.str s,.str [42,46]] (.d (.bool (Go.Lib.hasPrefix s [42,46]))) []:=by
 refine dQ ⟨_,Tryz.func95,by kernel_rfl,by kernel_rfl⟩ rfl λw vs _ hsz hrep=>?_
 obtain⟨b,hb,rfl⟩:=eM (hrep 0 _ rfl);obtain⟨c,hc,hc'⟩:=eM (hrep 1 _ rfl);rw[vC hsz,hb,hc];refine(Tryz.strings_HasPrefix _ _ _).mono ?_;rintro e w' ⟨rfl,rfl⟩;rw[hc'];exact⟨_,rfl,Below.refl _ _,.eF _⟩
theorem plain_fn(s:Bs):NQ.Fn cx 75 [.str s] (.d (.bool (pB s))) []:=by
 refine aK aV mixed Tryz.func75 (by kernel_rfl) rfl (ag rfl) ?_;conv=>whnf
 repeat' (first|(refine⟨_,_,lC s,?_⟩;conv=>whnf)|(refine⟨_,_,QX s,?_⟩;conv=>whnf)|(refine af (λh=>?_) (λh=>?_) <;> (rw[h];conv=>whnf))|fail)
 all_goals (refine aj rfl ?_;show AV.d (D.bool _)=AV.d (D.bool _);congr 2;unfold pB;simp_all)
theorem Gn(k:dJ):NQ.Fn cx 74 [.agg (cK k)] (.d (.bool (zP k))) []:=by
 refine aK aV mixed Tryz.func74 (by kernel_rfl) rfl (ag rfl) ?_;conv=>whnf
 repeat' (first|(refine af (λh=>?_) (λh=>?_) <;> (rw[h];conv=>whnf))|fail)
 all_goals (refine aj rfl ?_;show AV.d (D.bool _)=AV.d (D.bool _);congr 2;unfold zP;(try simp_all);(try omega))
theorem AL(w:aL)(n:Int):NQ.Fn cx 76 [.agg (bt w),.int .i64 n] (.d (.bool (bn w n))) []:=by
 refine aK aV mixed Tryz.func76 (by kernel_rfl) rfl (ag rfl) ?_;conv=>whnf
 repeat' (first|(refine af (λh=>?_) (λh=>?_) <;> (rw[h];conv=>whnf))|fail)
 all_goals (refine aj rfl ?_;show AV.d (D.bool _)=AV.d (D.bool _);congr 2;unfold bn;(try simp_all);(try omega))
theorem DD(a b:Datum):NQ.Fn cx 125 [.agg (aG a),.agg (aG b)] (.d (.int .i64 (eK a b))) []:=by
 refine aK aV mixed Tryz.func125 (by kernel_rfl) rfl (ag rfl) ?_;conv=>whnf
 repeat' (first|(refine⟨(by kernel_rfl:bE _ _=true),?_⟩;conv=>whnf)|(refine⟨_,_,tA _ _,?_⟩;conv=>whnf)|(refine⟨_,_,kg _ _,?_⟩;conv=>whnf)|fail)
 refine⟨_,BQ [_,_,_] (by simp),rfl,?_⟩
 conv=>whnf
 refine aj rfl ?_;rw[GG];rfl
theorem yk(a b:Signed):NQ.Fn cx 183 [.agg (ak a),.agg (ak b)] (.d (.int .i64 (yO a b))) []:=by
 refine aK aV mixed Tryz.func183 (by kernel_rfl) rfl (ag rfl) ?_;conv=>whnf
 repeat' (first|(refine⟨(by kernel_rfl:bE _ _=true),?_⟩;conv=>whnf)|(refine⟨_,_,xq _ _,?_⟩;conv=>whnf)|(refine⟨_,_,kg _ _,?_⟩;conv=>whnf)|fail)
 refine⟨_,BQ [_,_] (by simp),rfl,?_⟩
 conv=>whnf
 refine aj rfl ?_;rw[GF];rfl
theorem Kk(a b:List Datum)(ha:a.length<=200000):NQ.Fn cx 139 [.slice 3 (a.map aG),.slice 3 (b.map aG)] (.d (.bool (a==b))) []:=by
 refine aK aV mixed Tryz.func139 (by kernel_rfl) rfl (ag rfl) ?_;conv=>whnf
 by_cases hl:a.length=b.length
 . rw[show(((a.map aG).length:Int) != ((b.map aG).length:Int))=false by simp[hl]]
   conv=>whnf
   refine⟨Nat,λk=>⟨[(0,.d (.slice 3 (a.map aG))),(1,.d (.slice 3 (b.map aG))),(12,.d (.int .i64 ((a.map aG).length:Int))),(13,.d (.int .i64 k))],[]⟩,λk=>k<=a.length/\a.take k=b.take k,λk=>a.length-k,
    ⟨0,⟨Nat.zero_le _,rfl⟩,aC.keep ⟨ae,ae,ae,ae,trivial⟩ trivial⟩,λk ⟨hk,he⟩=>?_⟩
   dsimp only at hk he ⊢
   conv=>whnf
   refine af (λh1=>?_) (λh1=>?_) <;> (rw[h1];conv=>whnf)
   . have hlt:k<a.length:=by simpa using h1
     obtain⟨x,hx⟩:∃x,a[k]? =some x:=⟨_,ai hlt⟩
     obtain⟨y,hy⟩:∃y,b[k]? =some y:=⟨_,ai (by omega)⟩
     (refine⟨(by kernel_rfl:bE _ _=true),?_⟩;conv=>whnf)
     refine⟨aw k,aG x,aB hx,?_⟩
     conv=>whnf
     refine⟨aw k,aG y,aB hy,?_⟩
     conv=>whnf
     have hxe:(x.text==y.text&&(x.n==y.n&&(x.m==y.m&&true)))=(x==y):=by
      rw[Bool.eq_iff_iff];simp only[aF,beq_iff_eq,and_true];constructor
      . rintro⟨h1,h2,h3⟩;cases x;cases y;simp_all
      . rintro rfl;exact⟨rfl,rfl,rfl⟩
     rw[hxe];by_cases hxy:x=y
     . rw[show(x==y)=true by simp[hxy]]
       conv=>whnf
       refine⟨k+1,⟨hlt,?_⟩,by(show a.length-(k+1)<a.length-k;omega),aC.keep ⟨ae,ae,ae,⟨ao (by omega),rfl⟩,trivial⟩ trivial⟩;rw[bK hx,bK hy,he,hxy]
     . rw[show(x==y)=false by simp[hxy]]
       conv=>whnf
       refine aj rfl ?_;have:(a==b)=false:=by
        rw[beq_eq_false_iff_ne];intro e;rw[e,hy]at hx;exact hxy (by cases hx;rfl)
       rw[this];rfl
   . obtain rfl:k=a.length:=by simp at h1;omega
     refine aj rfl ?_;rw[List.take_length,hl,List.take_length]at he;rw[he,beq_self_eq_true];rfl
 . rw[show(((a.map aG).length:Int) != ((b.map aG).length:Int))=true by simp;omega]
   conv=>whnf
   refine aj rfl ?_;have:(a==b)=false:=by
    rw[beq_eq_false_iff_ne];rintro rfl;exact hl rfl
   rw[this];rfl
theorem qe(z:aD)(s:Bs)(kind:Int)(data:List Datum)(hn:z.sets.length<=100000)(hd:(wfR z s kind).1.data.length<=200000):NQ.Fn cx 138 [.agg (aH z),.str s,.int .i64 kind,.slice 3 (data.map aG)] (.d (.bool (kM z s kind data))) []:=by
 refine aK aV mixed Tryz.func138 (by kernel_rfl) rfl (ag rfl) ?_;conv=>whnf
 (refine⟨_,_,lO z s kind hn,?_⟩;conv=>whnf)
 refine af (λh1=>?_) (λh1=>?_) <;> (rw[h1];conv=>whnf)
 . (refine⟨_,_,Kk _ data hd,?_⟩;conv=>whnf)
   exact aj rfl (by unfold kM;rw[h1];rfl)
 . exact aj rfl (by unfold kM;rw[h1];rfl)
theorem uf(w:aL)(l:List Int):NQ.Fn cx 69 [.agg (bt w),.slice 1 (l.map cB)] (.d (.bool (fw w l))) []:=by
 refine aK aV mixed Tryz.func69 (by kernel_rfl) rfl (ag rfl) ?_;conv=>whnf
 refine af (λh0=>?_) (λh0=>?_) <;> (rw[h0];conv=>whnf)
 . exact aj rfl (by unfold fw;simp only[an]at h0;rw[h0];rfl)
 refine af (λh00=>?_) (λh00=>?_) <;> (rw[h00];conv=>whnf)
 . exact aj rfl (by unfold fw;simp only[an]at h0 h00;rw[h0,h00];rfl)
 have hR:fw w l=kq w [] l:=by unfold fw;simp only[an]at h0 h00;rw[h0,h00];rfl
 rw[hR];have hlen:l.length<=8:=by simp only[an]at h00;have:=of_decide_eq_false h00;omega
 refine⟨Nat,λk=>⟨[(2,.ptr 2 0),(5,.omap 16),(17,.d (.slice 1 (l.map cB))),(18,.d (.int .i64 ((l.map cB).length:Int))),(19,.d (.int .i64 k))],[(2,.box ((bt w).map .d)),(16,.smap (oE ((l.take k).map (nameAt w))))]⟩,
  λk=>k<=l.length/\kq w ((l.take k).map (nameAt w)) (l.drop k)=kq w [] l,λk=>l.length-k,⟨0,⟨Nat.zero_le _,rfl⟩,aC.keep⟩,λk ⟨hk,hg⟩=>?_⟩
 dsimp only at hk hg ⊢
 conv=>whnf
 refine af (λh1=>?_) (λh1=>?_) <;> (rw[h1];conv=>whnf)
 . have hlt:k<l.length:=by simpa using h1
   obtain⟨n,hn⟩:∃x,l[k]? =some x:=⟨_,ai hlt⟩
   rw[drop_cons hn,kq]at hg;refine⟨aw k,cB n,aB hn,?_⟩
   conv=>whnf
   (refine⟨_,_,AL w n,?_⟩;conv=>whnf)
   refine af (λh2=>?_) (λh2=>?_) <;> (rw[h2];conv=>whnf)
   . exact aj rfl (by rw[<- hg];simp at h2;rw[h2];rfl)
   . have hh:bn w n=true:=by simpa using h2
     have hh' :=hh;unfold bn at hh';simp only[aF,decide_eq_true_eq]at hh';obtain⟨h,hw⟩:∃h,w.hosts[n.toNat]? =some h:=⟨_,ai (by omega)⟩
     have hnm:nameAt w n=h.name:=by unfold nameAt;rw[hw]
     rw[hnm]at hg;refine⟨hh'.1,eh h,aB hw,?_⟩
     conv=>whnf
     cases hc:((l.take k).map (nameAt w)).contains h.name with
     |true =>
      rw[show bg h.name (oE ((l.take k).map (nameAt w)))=some (.bool true) by rw[oF,hc];rfl]
      conv=>whnf
      exact aj rfl (by rw[<- hg,hc,qD,kD,uR];rfl)
     |false =>
      rw[show bg h.name (oE ((l.take k).map (nameAt w)))=none by rw[oF,hc];rfl]
      conv=>whnf
      refine⟨hh'.1,eh h,aB hw,?_⟩
      conv=>whnf
      refine⟨k+1,⟨hlt,?_⟩,by(show l.length-(k+1)<l.length-k;omega),aC.keep ⟨ae,ae,ae,ae,⟨ao (by omega),rfl⟩,trivial⟩ ⟨ae,⟨?_,rfl⟩,trivial⟩⟩
      . rw[<- hg,hh,hc,bK hn,List.map_append];simp[hnm]
      . show some (Blk.smap (bT h.name (.bool true) (oE ((l.take k).map (nameAt w)))))=_
        rw[Lq hc,bK hn,List.map_append];simp[hnm]
 . obtain rfl:k=l.length:=by simp at h1;omega
   exact aj rfl (by rw[<- hg,List.drop_length];rfl)
end Go.Proofs.YtodofogcincleaaGreatDoor
namespace NP
open NQ Go
def dS(host:Int)(apex:Bs)(p:al):Bool:=decide (p.host=host)&&(p.zone.apex==apex)
def kb(apex:Bs)(x:Bs×Bool)(p:al):Bs×Bool:=if ((p.zone.apex != apex)&&(bo apex p.zone.apex).1&&(!x.2||(bo p.zone.apex x.1).1))=true then(p.zone.apex,true)else x
def ka(apex:Bs)(zs:List al):Bs×Bool:=zs.foldl (kb apex) ([],false)
def cv(zs:List al)(apex:Bs):aD×Bool:=if (ka apex zs).2=true then(if (wfR (bS zs (ka apex zs).1).1 apex 2).2=true then((bS zs (ka apex zs).1).1,true)else(gJ,false))else(gJ,false)
def OS:List D->Datum
 |[.str t,.int _ n,.int _ m]=>⟨t,n,m⟩
 |_=>⟨[],0,0⟩
def RW(x y:List D):Int:=eK (OS x) (OS y)
theorem iA(a b:Datum):eK a b=lex Go.Lib.compareBytes (lex cY cY) (a.text,a.n,a.m) (b.text,b.n,b.m):=rfl
theorem vM:iy eK:=by
 have h:=zS cD (zS rZ rZ);refine⟨λa b=>?_,λa b=>?_,λa b=>?_,λa b c=>?_⟩
 . rw[iA];exact h.range _ _
 . rw[iA,h.zero];cases a;cases b;simp
 . rw[iA,iA];exact h.anti _ _
 . rw[iA,iA,iA];exact h.lt _ _ _
theorem iy.ok{α:Type}{c:α->α->Int}(h:iy c)(l:List α):jV c l:=by
 refine⟨λx _=>?_,λx _ y _ z _ h1 h2=>?_,λx _ y _ z _ h1 h2=>?_⟩
 . rw[(h.zero x x).2 rfl];omega
 . have:=h.Sd h1 (Int.le_of_lt h2);exact this
 . have a1:=h.anti x y;have a2:=h.anti y z;have a3:=h.anti x z;have:=h.le_trans (a:=z) (b:=y) (c:=x) (by omega) (by omega);omega
theorem Hn(l:List Datum):jV eK l:=vM.ok l
def mf(w:aL)(n:Int):Datum:=⟨nameAt w n,0,0⟩
def cz(w:aL)(l:List Int):List Datum:=fB eK (l.map (mf w))
theorem xD(a:Bs):∀(zs:List al) (b:Option (Nat×al)) (i:Nat),(∀j q,b=some (j,q)->q.zone.apex=a) ->
 (∀j q,kH a b i zs=some (j,q)->q.zone.apex=a/\(b=some (j,q)\/q∈zs))/\(kH a b i zs=none->b=none/\ ∀p∈zs,p.zone.apex≠a)
 |[],b,i,hb=>⟨λj q h=>⟨hb j q h,.inl h⟩,λh=>⟨h,λp hp=>by cases hp⟩⟩
 |x::t,b,i,hb=>by
  have hs:∀j q,mi a b i x=some (j,q)->q.zone.apex=a/\(b=some (j,q)\/q=x):=λj q h=>by
   unfold mi at h;split at h
   . exact⟨hb j q h,.inl h⟩
   . rename_i hne;have hx:x.zone.apex=a:=by simpa using hne
     split at h
     . cases h;exact⟨hx,.inr rfl⟩
     . rename_i j' q';split at h
       . cases h;exact⟨hx,.inr rfl⟩
       . cases h;exact⟨hb _ _ rfl,.inl rfl⟩
  obtain⟨ih1,ih2⟩:=xD a t (mi a b i x) (i+1) λj q h=>(hs j q h).1
  refine⟨λj q h=>?_,λh=>?_⟩
  . obtain⟨h1,h2⟩:=ih1 j q h;refine⟨h1,?_⟩;rcases h2 with h2|h2
    . rcases (hs j q h2).2 with h3|rfl
      . exact .inl h3
      . exact .inr (List.mem_cons_self ..)
    . exact .inr (bk _ h2)
  . obtain⟨h1,h2⟩:=ih2 h;unfold mi at h1;split at h1
    . rename_i hne;exact⟨h1,λp hp=>by
       rcases List.mem_cons.1 hp with rfl|hp
       . simpa using hne
       . exact h2 p hp⟩
    . split at h1
      . cases h1
      . split at h1 <;> cases h1
theorem gj(zs:List al)(a:Bs):(∃p∈zs,bS zs a=(p.zone,true)/\p.zone.apex=a)\/(bS zs a=(gJ,false)/\ ∀p∈zs,p.zone.apex≠a):=by
 obtain⟨h1,h2⟩:=xD a zs none 0 λj q h=>by cases h
 unfold bS sd;cases h:kH a none 0 zs with
 |none=>exact .inr ⟨rfl,(h2 h).2⟩
 |some jq =>
  obtain⟨j,q⟩:=jq;obtain⟨g1,g2⟩:=h1 j q h;rcases g2 with g2|g2
  . cases g2
  . exact .inl ⟨q,g2,rfl,g1⟩
end NP
namespace Go.Proofs.YtodofogcincleaaGreatDoor
open NQ Go NP Go.RowKit
theorem Ay{zs:List al}(hv:∀p∈zs,aR p.zone=true)(a:Bs):(bS zs a).1.sets.length<=100000:=by
 rcases gj zs a with ⟨p,hp,h,_⟩|⟨h,_⟩
 . rw[h];have:=(bX (hv p hp)).few;(show p.zone.sets.length<=100000);omega
 . rw[h];exact Nat.zero_le _
theorem bw{cx cx' :Cx}(h1:cx'.P=cx.P)(h2:cx'.gl=cx.gl){pv:Int->Value}{f:FuncId}{args:List AV}{h:List (Nat×Blk)}{out:Option (AV×List (Nat×Blk))}(hf:FnP cx pv f args h out):FnP cx' pv f args h out:=by
 unfold FnP eV ix at *
 rw[h1,h2];exact hf
noncomputable def cxO:Cx:={cx with chg:=fG [(62,10),(124,2)]}
theorem tyO:aZ cxO:=aV
theorem yn:cxO.P.follows .mixedOrders=true:=mixed
theorem pP(w:aL)(apex:Bs)(hv:∀p∈w.zones,aR p.zone=true)(hn:w.zones.length<=100000) :
 FnP cxO pv0 112 [.agg (fm w),.d (.str apex)] [] (some (.tuple [.agg ((aH (cv w.zones apex).1).map .d),.d (.bool (cv w.zones apex).2)],[])):=by
 refine aS [] (fun|0=>[33333]|11=>[33333]|_=>[]) tyO yn Tryz.func112 (by kernel_rfl) rfl (ag rfl) (ag rfl) rfl ?_
 conv=>whnf
 refine⟨Nat×Bs×Bool,λx=>⟨[(1,.d (.str apex)),(2,.ptr 2 0),(4,.ptr 4 0),(6,.d (.str x.2.1)),(7,.d (.bool x.2.2)),(17,.d (.slice 3 (w.zones.map aA))),(18,.d (.int .i64 ((w.zones.map aA).length:Int))),(19,.d (.int .i64 x.1))],[(2,.box (fm w)),(4,.box [.d (.str []),.nil 5])]⟩,
  λx=>x.1<=w.zones.length/\x.2=ka apex (w.zones.take x.1),λx=>w.zones.length-x.1,⟨(0,[],false),⟨Nat.zero_le _,rfl⟩,ah.keep⟩,?_⟩
 rintro⟨k,l,b⟩ ⟨hk,hx⟩;dsimp only at hk hx
 conv=>whnf
 refine af (λh1=>?_) (λh1=>?_) <;> (rw[h1];conv=>whnf)
 . have hlt:k<w.zones.length:=by simpa using h1
   obtain⟨p,hp⟩:∃x,w.zones[k]? =some x:=⟨_,ai hlt⟩
   have hS:ka apex (w.zones.take (k+1))=kb apex (l,b) p:=by
    rw[bK hp,hx];unfold ka;rw[List.foldl_append];rfl
   have yes:((p.zone.apex != apex)&&(bo apex p.zone.apex).1&&(!b||(bo p.zone.apex l).1))=true->(p.zone.apex,true)=ka apex (w.zones.take (k+1)):=λh=>by rw[hS,kb,if_pos h]
   have no:((p.zone.apex != apex)&&(bo apex p.zone.apex).1&&(!b||(bo p.zone.apex l).1))=false->(l,b)=ka apex (w.zones.take (k+1)):=λh=>by rw[hS,kb,if_neg (by rw[h];decide)]
   refine⟨aw k,aA p,aB hp,?_⟩
   conv=>whnf
   have hbne:(p.zone.apex != apex)= !(p.zone.apex==apex):=rfl
   repeat' (first|(refine⟨_,_,mg apex p.zone.apex,?_⟩;conv=>whnf)|(refine⟨_,_,mg p.zone.apex l,?_⟩;conv=>whnf)|(refine af (λh=>?_) (λh=>?_) <;> (rw[h];conv=>whnf))|fail)
   all_goals first
    |(refine⟨(k+1,p.zone.apex,true),⟨hlt,yes (by simp only[hbne, *, if_true,if_false,aI])⟩,by(show w.zones.length-(k+1)<w.zones.length-k;omega),ah.keep ⟨ae,ae,ae,ae,ae,ae,ae,⟨ao (k:=k) (by omega),rfl⟩,trivial⟩⟩;done)
    |(refine⟨(k+1,l,b),⟨hlt,no (by simp only[hbne, *, if_true,if_false,aI])⟩,by(show w.zones.length-(k+1)<w.zones.length-k;omega),ah.keep ⟨ae,ae,ae,ae,ae,ae,ae,⟨ao (k:=k) (by omega),rfl⟩,trivial⟩⟩;done)
    |(subst_vars;refine⟨(k+1,l,true),⟨hlt,no (by simp only[hbne, *, if_true,if_false,aI])⟩,by(show w.zones.length-(k+1)<w.zones.length-k;omega),ah.keep ⟨ae,ae,ae,ae,ae,ae,ae,⟨ao (k:=k) (by omega),rfl⟩,trivial⟩⟩;done)
 . obtain rfl:k=w.zones.length:=by simp at h1;omega
   rw[List.take_length]at hx;have hz:cv w.zones apex=if b=true then(if (wfR (bS w.zones l).1 apex 2).2=true then((bS w.zones l).1,true)else(gJ,false))else(gJ,false):=by unfold cv;rw[<- hx]
   rw[hz];refine af (λh2=>?_) (λh2=>?_) <;> (rw[h2];conv=>whnf)
   . have hb:b=false:=by simpa using h2
     subst hb;exact bF rfl rfl rfl
   have hb:b=true:=by simpa using h2
   subst hb;have hC:=bw (cx' :=cxO) rfl rfl (gZ w l hv hn);refine⟨[2,4],_,hC,⟨rfl,rfl,rfl⟩,?_⟩
   conv=>whnf
   refine az ?_
   conv=>whnf
   (refine⟨_,_,lO (bS w.zones l).1 apex 2 (Ay hv l),?_⟩;conv=>whnf)
   refine af (λh3=>?_) (λh3=>?_) <;> (rw[h3];conv=>whnf)
   . have h4:(wfR (bS w.zones l).1 apex 2).2=false:=by simpa using h3
     rw[h4];exact bF rfl rfl rfl
   . have h4:(wfR (bS w.zones l).1 apex 2).2=true:=by simpa using h3
     rw[h4];exact bF rfl rfl rfl
theorem Fc(p:al)(host:Int)(apex:Bs):NQ.Fn cx 180 [.agg (aA p),.ptr [.int .i64 host],.ptr [.str apex]] (.d (.bool (dS host apex p))) []:=by
 refine aK aV mixed Tryz.func180 (by kernel_rfl) rfl (ag rfl) ?_;conv=>whnf
 repeat' (first|(refine af (λh=>?_) (λh=>?_) <;> (rw[h];conv=>whnf))|fail)
 all_goals (refine aj rfl ?_;show AV.d (D.bool _)=AV.d (D.bool _);congr 2;unfold dS;(try simp_all))
theorem Nl(l:List al)(p:al->Bool)(x y:D)(hn:l.length<=100000)(hf:∀s∈l,NQ.Fn cx 180 [.agg (aA s),x,y] (.d (.bool (p s))) []) :
 NQ.Fn cx 222 [.slice 3 (l.map aA),.fn 180 [] [x,y]] (.d (.int .i64 (match l.findIdx? p with|some k=>(k:Int)|none=> -1))) []:=by
 refine aK aV mixed Tryz.func222 (by kernel_rfl) rfl (ag rfl) ?_;conv=>whnf
 refine⟨Nat,λk=>⟨[(0,.d (.slice 3 (l.map aA))),(1,.d (.fn 180 [] [x,y])),(7,.d (.int .i64 ((l.map aA).length:Int))),(8,.d (.int .i64 k))],[]⟩,λk=>k<=l.length/\ ∀j y,j<k->l[j]? =some y->p y=false,λk=>l.length-k,
  ⟨0,⟨by omega,λj y h=>by omega⟩,aC.keep ⟨ae,ae,ae,ae,trivial⟩ trivial⟩,λk hk=>?_⟩
 obtain⟨hk,hall⟩:=hk
 conv=>whnf
 refine af (λh1=>?_) (λh1=>?_) <;> (rw[h1];conv=>whnf)
 . have hlt:k<l.length:=by simp at h1;omega
   obtain⟨s,hs⟩:∃s,l[k]? =some s:=⟨_,ai hlt⟩
   refine⟨aw k,aA s,aB hs,?_⟩
   conv=>whnf
   (refine⟨_,_,hf s (au hs),?_⟩;conv=>whnf)
   refine af (λh2=>?_) (λh2=>?_) <;> (rw[h2];conv=>whnf)
   . refine aj rfl ?_;have:l.findIdx? p=some k:=by
      rw[List.findIdx?_eq_some_iff_getElem];obtain⟨g1,g2⟩:=aq.1 hs;refine⟨g1,by rw[g2];exact h2,λj hj=>?_⟩;have:=hall j (l[j]) hj (ai (by omega));rw[this];decide
     rw[this];rfl
   . refine⟨k+1,⟨hlt,λj y hj hy=>?_⟩,by(show l.length-(k+1)<l.length-k;omega),aC.keep ⟨ae,ae,ae,⟨ao (by omega),rfl⟩,trivial⟩ trivial⟩;rcases Nat.lt_succ_iff_lt_or_eq.1 hj with hj|rfl
     . exact hall j y hj hy
     . rw[hs]at hy;cases hy;exact h2
 . obtain rfl:k=l.length:=by simp at h1;omega
   refine aj rfl ?_;have:l.findIdx? p=none:=by
    rw[List.findIdx?_eq_none_iff];intro x hx;obtain⟨i,hi⟩:=ck hx;exact hall i x (aq.1 hi).1 hi
   rw[this];rfl
theorem vT{α:Type}(p:α->Bool)(l:List α):decide ((match l.findIdx? p with|some k=>(k:Int)|none=> -1)>=0)=l.any p:=by
 cases h:l.findIdx? p with
 |some k =>
  obtain⟨h1,h2,_⟩:=List.findIdx?_eq_some_iff_getElem.1 h;have:l.any p=true:=List.any_eq_true.2 ⟨_,List.getElem_mem h1,h2⟩;rw[this,decide_eq_true];exact aw k
 |none =>
  have:l.any p=false:=by
   rw[<- Bool.not_eq_true,List.any_eq_true];rintro⟨x,hx,hp⟩;have:=List.findIdx?_eq_none_iff.1 h x hx;rw[this]at hp;cases hp
  rw[this];rfl
theorem Mm(l:List al)(p:al->Bool)(x y:D)(hn:l.length<=100000)(hf:∀s∈l,NQ.Fn cx 180 [.agg (aA s),x,y] (.d (.bool (p s))) []) :
 NQ.Fn cx 179 [.slice 3 (l.map aA),.fn 180 [] [x,y]] (.d (.bool (l.any p))) []:=by
 refine aK aV mixed Tryz.func179 (by kernel_rfl) rfl (ag rfl) ?_;conv=>whnf
 (refine⟨_,_,Nl l p x y hn hf,?_⟩;conv=>whnf)
 refine aj rfl ?_;show AV.d (D.bool (decide ((match l.findIdx? p with|some k=>(k:Int)|none=> -1)>=0)))=_
 rw[vT]
theorem jL(w:aL)(host:Int)(apex:Bs)(hn:w.zones.length<=100000) :
 FnP cxO pv0 113 [.agg (fm w),.d (.int .i64 host),.d (.str apex)] [] (some (.d (.bool (w.zones.any (dS host apex))),[])):=by
 refine aS [] (fun|0=>[33333]|_=>[]) tyO yn Tryz.func113 (by kernel_rfl) rfl (ag rfl) (ag rfl) rfl ?_
 conv=>whnf
 (refine⟨_,Mm w.zones (dS host apex) _ _ hn (λp _=>Fc p host apex),rfl,?_⟩;conv=>whnf)
 exact bF rfl rfl rfl trivial
theorem Be(l:List Datum)(hl:l.length<=100000)(fl:Bool):FnR cx 124 false 70 3 (l.map aG) fl [.fn 125 [] []] ((fB eK l).map aG):=by
 rw[<- Bf aG eK RW l λx _ y _=>rfl];exact Ef (cx:=cx) (ρ:=Tryz.wu) Tryz.QB (k:=3) Tryz.isAgg70 Tryz.sizeOf70 ⟨_,Tryz.func124,by kernel_rfl,rfl⟩
  (λx hx y hy=>by
   obtain⟨a,ha,rfl⟩:=List.mem_map.1 hx;obtain⟨b,hb,rfl⟩:=List.mem_map.1 hy;exact DD a b) (enters_of Tryz.func125 (by kernel_rfl) rfl) ((Hn l).map λx _ y _=>rfl) (by rw[an];omega)
theorem qU(w:aL)(l:List Int)(hl:l.length<=1000)(hh:∀n∈l,bn w n=true) :
 FnP cxO pv0 117 [.agg (fm w),.d (.slice 1 (l.map cB))] [] (some (.d (.slice 3 ((cz w l).map aG)),[])):=by
 refine aS [] (fun|0=>[33333]|_=>[]) tyO yn Tryz.func117 (by kernel_rfl) rfl (ag rfl) (ag rfl) rfl ?_
 conv=>whnf
 refine⟨Nat,λk=>⟨[(2,.ptr 2 0),(5,.own 55),(8,.d (.slice 1 (l.map cB))),(9,.d (.int .i64 ((l.map cB).length:Int))),(10,.d (.int .i64 k))],[(2,.box (fm w)),(55,.row 70 3 (((l.take k).map (mf w)).map aG))]⟩,λk=>k<=l.length,λk=>l.length-k,
  ⟨0,Nat.zero_le _,(ah.jN 5 55 3 70 3 rfl rfl (by decide)).trans (ah.keep)⟩,λk hk=>?_⟩
 conv=>whnf
 refine af (λh1=>?_) (λh1=>?_) <;> (rw[h1];conv=>whnf)
 . have hlt:k<l.length:=by simp at h1;omega
   obtain⟨n,hn⟩:∃s,l[k]? =some s:=⟨_,ai hlt⟩
   have hw:=hh n (au hn);unfold bn at hw;simp only[aF,decide_eq_true_eq]at hw;obtain⟨h,hh2⟩:∃h,w.hosts[n.toNat]? =some h:=⟨_,ai (by omega)⟩
   refine⟨aw k,cB n,aB hn,?_⟩
   conv=>whnf
   refine⟨hw.1,eh h,aB hh2,?_⟩
   conv=>whnf
   have hS:((l.take (k+1)).map (mf w)).map aG=((l.take k).map (mf w)).map aG++[[.str h.name,.int .i64 0,.int .i64 0]]:=by
    rw[bK hn,List.map_append,List.map_append]
    congr 1
    show[aG (mf w n)]=_
    unfold mf nameAt;rw[hh2];rfl
   refine⟨by simp;omega,by simp;omega,?_⟩
   conv=>whnf
   refine⟨k+1,hlt,by(show l.length-(k+1)<l.length-k;omega),ah.keep ⟨ae,ae,ae,ae,⟨ao (k:=k) (by omega),rfl⟩,trivial⟩ ⟨ae,⟨congrArg (λr=>some (Blk.row 70 3 r)) hS.symm,rfl⟩,trivial⟩⟩
 . obtain rfl:k=l.length:=by simp at h1;omega
   rw[List.take_length];have hso:=λfl=>Be (l.map (mf w)) (by simp;omega) fl
   rw[show fB eK (l.map (mf w))=cz w l from rfl]at hso;refine⟨_,hso _,?_⟩;generalize cz w l=sv
   conv=>whnf
   exact DY [55] rfl rfl rfl
end Go.Proofs.YtodofogcincleaaGreatDoor
namespace NP
open NQ Go
structure bc where
 kind:Int
 zone:Bs
 name:Bs
 hosts:List Int
 key:dJ
 deriving DecidableEq
def aT(x:bc):List D:=[.int .i64 x.kind,.str x.zone,.str x.name,.slice 1 (x.hosts.map cB),.int .i64 x.key.n,.int .i64 x.key.alg]
def pH(w:aL)(z:aD)(s:Bs):Bool:= !(!pB s||(s==z.apex)|| !(bo s z.apex).1)&&(!(bS w.zones s).2&&(((nQ z s).2.2==0)&& !(nQ z s).2.1))
def mA(k:dJ):Bool:=(k.n==0)&&((k.alg==0)&&true)
def px(w:aL)(l:List Int):Bool:=match l with|[n]=>bn w n|_=>false
theorem yw{w:aL}{l:List Int}(h:l.length≠1):px w l=false:=by
 match l,h with
 |[],_=>rfl
 |[n],h=>exact absurd rfl h
 |_::_::_,_=>rfl
def jh(w:aL)(x:bc):Bool :=
 if x.kind=1 then(x.name==[])&&mA x.key&&fw w x.hosts
 else if x.kind=2 then(x.name==[])&&decide ((x.hosts.length:Int)=0)&&zP x.key
 else if x.kind=3 then pB x.name&&mA x.key&&px w x.hosts
 else if x.kind=4 then pH w (bS w.zones x.zone).1 x.name&&fw w x.hosts&&zP x.key
 else false
def eU(w:aL)(x:bc):Bool:= !(!eG w||(x.zone==[46]))&&((bS w.zones x.zone).2&&jh w x)
end NP
namespace Go.Proofs.YtodofogcincleaaGreatDoor
open NQ Go NP Go.RowKit
noncomputable def cxV:Cx:={cx with chg:=fG [(62,10),(77,10)]}
theorem tyV:aZ cxV:=aV
theorem Rr:cxV.P.follows .mixedOrders=true:=mixed
theorem FA(w:aL)(z:aD)(s:Bs)(hv:∀p∈w.zones,aR p.zone=true)(hn:w.zones.length<=100000) :
 FnP cxO pv0 77 [.agg (fm w),.agg ((aH z).map .d),.d (.str s)] [] (some (.d (.bool (pH w z s)),[])):=by
 refine aS [] (fun|0=>[33333]|3=>[33333]|_=>[]) tyO yn Tryz.func77 (by kernel_rfl) rfl (ag rfl) (ag rfl) rfl ?_
 conv=>whnf
 (refine⟨_,_,plain_fn s,?_⟩;conv=>whnf)
 have hbad:(!pB s||(s==z.apex)|| !(bo s z.apex).1)=true->pH w z s=false:=λh=>by unfold pH;rw[h];rfl
 repeat' (first|(refine⟨_,_,mg s z.apex,?_⟩;conv=>whnf)|(refine af (λh=>?_) (λh=>?_) <;> (rw[h];conv=>whnf))|fail)
 all_goals first
  |exact bF rfl (by rw[hbad (by simp only[*, if_true,if_false,aI])];rfl) rfl trivial
  |skip
 have hok:(!pB s||(s==z.apex)|| !(bo s z.apex).1)=false:=by simp only[*, if_true,if_false,aI]
 have hsp:pH w z s=(!(bS w.zones s).2&&(((nQ z s).2.2==0)&& !(nQ z s).2.1)):=by unfold pH;rw[hok];rfl
 rw[hsp];have hC:=bw (cx' :=cxO) rfl rfl (gZ w s hv hn);refine⟨[3,4],_,hC,⟨rfl,rfl,rfl⟩,?_⟩
 conv=>whnf
 refine az ?_
 conv=>whnf
 refine af (λh3=>?_) (λh3=>?_) <;> (rw[h3];conv=>whnf)
 . exact bF rfl rfl rfl trivial
 . (refine⟨_,_,QU z s,?_⟩;conv=>whnf)
   repeat' (first|(refine af (λh=>?_) (λh=>?_) <;> (rw[h];conv=>whnf))|fail)
   all_goals exact bF rfl (by(try simp only[*, if_true,if_false,aI]);rfl) rfl trivial
set_option maxHeartbeats 1000000 in
theorem nZ(w:aL)(x:bc)(hF:tg w) :
 FnP cxV pv0 32 [.agg ((bt w).map .d),.agg ((aT x).map .d)] [] (some (.d (.bool (eU w x)),[])):=by
 refine aS [] (fun|4=>[33333]|16=>[33333]|_=>[]) tyV Rr Tryz.func32 (by kernel_rfl) rfl (ag rfl) (ag rfl) rfl ?_
 conv=>whnf
 have hn:w.zones.length<=100000:=by have:=hF.zones;omega
 (refine⟨_,_,uK w hF,?_⟩;conv=>whnf)
 have hbad:(!eG w||(x.zone==[46]))=true->eU w x=false:=λh=>by unfold eU;rw[h];rfl
 repeat' (first|(refine af (λh=>?_) (λh=>?_) <;> (rw[h];conv=>whnf))|fail)
 all_goals first
  |exact bF rfl (by rw[hbad (by simp only[*, if_true,if_false,aI])];rfl) rfl trivial
  |skip
 have hok:(!eG w||(x.zone==[46]))=false:=by simp only[*, if_true,if_false,aI]
 have hvw:eG w=true:=by cases h:eG w <;> simp_all
 have hv:=λp hp=>(gH hvw p hp).1
 have hsp:eU w x=((bS w.zones x.zone).2&&jh w x):=by unfold eU;rw[hok];rfl
 rw[hsp];have hC:=bw (cx' :=cxV) rfl rfl (gZ w x.zone hv hn);refine⟨[2,3,5],_,hC,⟨rfl,rfl,rfl⟩,?_⟩
 conv=>whnf
 refine az ?_
 conv=>whnf
 refine af (λh3=>?_) (λh3=>?_) <;> (rw[h3];conv=>whnf)
 . have h4:(bS w.zones x.zone).2=false:=by simpa using h3
   exact bF rfl (by rw[h4];rfl) rfl trivial
 have h4:(bS w.zones x.zone).2=true:=by simpa using h3
 rw[h4,gI];by_cases k1:x.kind=1
 . have hk:jh w x=((x.name==[])&&mA x.key&&fw w x.hosts):=by unfold jh;rw[if_pos k1]
   rw[hk,show(x.kind==1)=true by simp[k1]]
   conv=>whnf
   repeat' (first|(refine⟨_,_,uf w x.hosts,?_⟩;conv=>whnf)|(refine af (λh=>?_) (λh=>?_) <;> (rw[h];conv=>whnf))|fail)
   all_goals exact bF rfl (by clear hsp hC hbad hv hok;refine congrArg (λb=>AV.d (D.bool b)) ?_;(try unfold mA);(try simp_all)) rfl trivial
 rw[show(x.kind==1)=false by simp[k1]]
 conv=>whnf
 by_cases k2:x.kind=2
 . have hk:jh w x=((x.name==[])&&decide ((x.hosts.length:Int)=0)&&zP x.key):=by unfold jh;rw[if_neg k1,if_pos k2]
   rw[hk,show(x.kind==2)=true by simp[k2]]
   conv=>whnf
   repeat' (first|(refine⟨_,_,Gn x.key,?_⟩;conv=>whnf)|(refine af (λh=>?_) (λh=>?_) <;> (rw[h];conv=>whnf))|fail)
   all_goals exact bF rfl (by clear hsp hC hbad hv hok;refine congrArg (λb=>AV.d (D.bool b)) ?_;(try unfold mA);(try simp_all)) rfl trivial
 rw[show(x.kind==2)=false by simp[k2]]
 conv=>whnf
 by_cases k3:x.kind=3
 . have hk:jh w x=(pB x.name&&mA x.key&&px w x.hosts):=by unfold jh;rw[if_neg k1,if_neg k2,if_pos k3]
   rw[hk,show(x.kind==3)=true by simp[k3]]
   conv=>whnf
   (refine⟨(by kernel_rfl:bE _ _=true),?_⟩;conv=>whnf)
   repeat' (first|(refine⟨_,_,plain_fn x.name,?_⟩;conv=>whnf)|(refine af (λh=>?_) (λh=>?_) <;> (rw[h];conv=>whnf))|fail)
   all_goals first
    |exact bF rfl (by clear hsp hC hbad hv hok;refine congrArg (λb=>AV.d (D.bool b)) ?_;(try unfold mA);(try simp_all);(first|done|rfl|exact yw (by omega))) rfl trivial
    |skip
   obtain⟨n,hn1⟩:∃n,x.hosts=[n]:=by
    have h6:x.hosts.length=1:=by
     simp only[an,beq_iff_eq]at *;omega
    match x.hosts,h6 with
    |[n],_=>exact⟨n,rfl⟩
   refine⟨Int.le_refl 0,cB n,by rw[hn1];rfl,?_⟩
   conv=>whnf
   (refine⟨_,_,AL w n,?_⟩;conv=>whnf)
   exact bF rfl (by clear hsp hC hbad hv hok;refine congrArg (λb=>AV.d (D.bool b)) ?_;(try unfold mA);(try simp_all);(first|done|rfl|exact yw (by omega))) rfl trivial
 rw[show(x.kind==3)=false by simp[k3]]
 conv=>whnf
 by_cases k4:x.kind=4
 . have hk:jh w x=(pH w (bS w.zones x.zone).1 x.name&&fw w x.hosts&&zP x.key):=by unfold jh;rw[if_neg k1,if_neg k2,if_neg k3,if_pos k4]
   rw[hk,show(x.kind==4)=true by simp[k4]]
   conv=>whnf
   have hS:=bw (cx' :=cxV) rfl rfl (FA w (bS w.zones x.zone).1 x.name hv hn);refine⟨[2,3,5,6],_,hS,⟨rfl,rfl,rfl⟩,?_⟩
   conv=>whnf
   refine az ?_
   conv=>whnf
   repeat' (first|(refine⟨_,_,Gn x.key,?_⟩;conv=>whnf)|(refine⟨_,_,uf w x.hosts,?_⟩;conv=>whnf)|(refine af (λh=>?_) (λh=>?_) <;> (rw[h];conv=>whnf))|fail)
   all_goals exact bF rfl (by clear hsp hC hbad hv hok;refine congrArg (λb=>AV.d (D.bool b)) ?_;(try unfold mA);(try simp_all)) rfl trivial
 rw[show(x.kind==4)=false by simp[k4]]
 conv=>whnf
 have hk:jh w x=false:=by unfold jh;rw[if_neg k1,if_neg k2,if_neg k3,if_neg k4]
 exact bF rfl (by rw[hk];rfl) rfl trivial
end Go.Proofs.YtodofogcincleaaGreatDoor
