/-
  Merged texts.
-/
import Derived.Test.YtodofogcincleaaGreatDoorMCa
import Derived.Test.YtodofogcincleaaGreatDoorMNh
set_option linter.all false
set_option maxRecDepth 100000
namespace NP
open NQ Go
end NP
namespace Go.Proofs.YtodofogcincleaaGreatDoor
open NQ Go NP Go.RowKit
theorem OZ{w:World}{v:Value}{ls:List Bs}(h:Strs w v ls){O:Nat->Prop}(hO:∀B off n c,v= .slice (some ⟨B,off,none⟩) n c-> ¬O B):Rep w O (.slice 1 (ls.map bt)) v:=by
 rcases h with ⟨a,c,rfl,rfl⟩|⟨B,off,cap,rfl,hc,hB,hcells⟩
 . exact .empty _ _ _
 . refine .slice 1 (ls.map bt) B off ls.length cap (λi _=>match ls[i]? with|some x=> .string (mk x)|none=>undef) (by simp) (hO B off _ _ rfl) hB hc (λr hr=>?_) (λi r j d hi hj=>?_) (λi r j d hi hj=>?_)
   . obtain⟨x,_,rfl⟩:=List.mem_map.1 hr;exact⟨rfl,λd hd=>by simp[bt]at hd;subst hd;rfl⟩
   . rw[aN]at hi;cases hx:ls[i]? with
     |none=>rw[hx]at hi;cases hi
     |some x =>
      rw[hx]at hi;cases hi;rcases j with _|j
      . have:=hcells i x hx;rw[Nat.mul_one,Nat.add_zero];exact this
      . simp[bt]at hj
   . rw[aN]at hi;cases hx:ls[i]? with
     |none=>rw[hx]at hi;cases hi
     |some x =>
      rw[hx]at hi;cases hi;rcases j with _|j
      . cases hj;exact .str _ _ (S_mk x)
      . simp[bt]at hj
theorem ET{w:World}{v:Value}(h:Strs w v []){O:Nat->Prop}:Rep w O (.slice 1 []) v:=by
 rcases h with ⟨a,c,rfl,_⟩|⟨B,off,cap,rfl,_⟩
 . exact .empty _ _ _
 . exact .empty _ _ _
theorem Kp(s:Bs):NQ.Fn cx 213 [.str s] (.tuple [.d (.slice 1 ((fk s).1.map bt)),.d (.int .i64 (fk s).2)]) []:=by
 refine⟨⟨_,Tryz.func213,by kernel_rfl,rfl⟩,λO w vs hO hG hGO hsz hrep=>?_⟩;obtain⟨b,hb,rfl⟩:=fm (hrep 0 _ rfl);rw[wg hsz,hb];refine(CD b w).mono ?_;rintro e w' ⟨v,rfl,hs,hbel,hfresh⟩;refine⟨_,λ_=> .nilFunc,rfl,hbel,⟨λs b hs=>by simp[find]at hs,λs s' b hs=>by simp[live,find]at hs⟩,?_⟩;have hrep' :Rep w' O (.slice 1 ((fk (S b)).1.map bt)) v:=by
  by_cases hv:bc (S b)=true
  . refine OZ hs λB off n c e hOB=>?_
    obtain⟨B',off',e',hle⟩:=hfresh hv;rw[e']at e;cases e;have:=hO B hOB;omega
  . have e:fk (S b)=([],11):=by unfold fk;rw[if_neg hv]
    rw[e]at hs ⊢;exact ET hs
 refine JY (.d _ _ (hrep'.mono (aU.less λb hb=>?_))) (.mkInt _ _);rcases hb with hb|⟨s,hl,_⟩
 . exact hb
 . simp[live,find]at hl
end Go.Proofs.YtodofogcincleaaGreatDoor
namespace NP
open NQ Go
end NP
namespace Go.Proofs.YtodofogcincleaaGreatDoor
open NQ Go NP Go.RowKit
theorem ko{z:aB}(hz:aR z=true):∀s∈z.sets,s.set.data.length<=8/\s.sigs.length<=6:=λs hs =>
 ⟨ni ((bT hz).set s hs),uN ((we.1 hz).form s hs)⟩
end Go.Proofs.YtodofogcincleaaGreatDoor
namespace NP
open NQ Go
theorem wD{α:Type}{l:List α}{k:Nat}{x:α}{p:α->Bool}(h:l[k]? =some x):(l.take (k+1)).filter p=(l.take k).filter p++if p x=true then[x]else[]:=by
 rw[bU h,List.filter_append]
 congr 1
 cases hp:p x <;> simp[hp]
end NP
namespace Go.Proofs.YtodofogcincleaaGreatDoor
open NQ Go NP Go.RowKit
theorem OP(l:List Signed)(p:Signed->Bool)(hn:l.length<=100000)(hf:∀s∈l,NQ.Fn cx 227 [.agg (ak s)] (.d (.bool (p s))) []) :
 NQ.Fn cx 226 [.slice 5 (l.map ak),.fn 227 [] []] (.d (.slice 5 ((l.filter p).map ak))) []:=by
 refine aM aV mixed Tryz.func226 (by kernel_rfl) rfl (ag rfl) ?_;conv=>whnf
 refine ⟨Nat, fun k => ⟨[(1, .d (.fn 227 [] [])), (5, .own 100), (8, .d (.slice 5 (l.map ak))), (9, .d (.int .i64 (l.map ak).length)), (10, .d (.int .i64 k))],
     [(100,.row 68 5 (((l.take k).filter p).map ak))]⟩,λk=>k<=l.length,λk=>l.length-k,
  ⟨0,by omega,(aF.kj 5 100 5 68 5 rfl rfl (by decide)).trans (aF.keep ⟨ae,ae,ae,ae,ae,trivial⟩ ⟨ae,trivial⟩)⟩,λk hk=>?_⟩
 conv=>whnf
 refine af (λh1=>?_) (λh1=>?_) <;> (rw[h1];conv=>whnf)
 . have hlt:k<l.length:=by simp at h1;omega
   obtain⟨s,hs⟩:∃s,l[k]? =some s:=⟨_,aj hlt⟩
   have hfl:((l.take k).filter p).length<=k:=Nat.le_trans (List.length_filter_le _ _) (by rw[List.length_take];omega);refine⟨aw k,ak s,aD hs,?_⟩
   conv=>whnf
   refine⟨_,_,hf s (ar hs),?_⟩
   conv=>whnf
   refine af (λh2=>?_) (λh2=>?_) <;> (rw[h2];conv=>whnf)
   . refine⟨by(show(((l.take k).filter p).map ak).length+1<=_;rw[ao];omega),by(show((((l.take k).filter p).map ak).length+1)*80<=_;rw[ao];omega),?_⟩
     conv=>whnf
     refine⟨k+1,hlt,by(show l.length-(k+1)<l.length-k;omega),aF.keep ⟨ae,ae,ae,ae,⟨an (by omega),rfl⟩,trivial⟩ ⟨⟨by(show some (Blk.row _ _ (_++_))=some (Blk.row _ _ _);rw[wD hs,if_pos h2,List.map_append];rfl),rfl⟩,trivial⟩⟩
   . refine⟨k+1,hlt,by(show l.length-(k+1)<l.length-k;omega),aF.keep ⟨ae,ae,ae,ae,⟨an (by omega),rfl⟩,trivial⟩ ⟨⟨by(rw[wD hs,if_neg (by rw[h2];decide),List.append_nil];rfl),rfl⟩,trivial⟩⟩
 . obtain rfl:k=l.length:=by simp at h1;omega
   refine al rfl ?_;rw[List.take_length];rfl
end Go.Proofs.YtodofogcincleaaGreatDoor
namespace NP
open NQ Go
def shown(n:Bs)(s:ck)(d:Datum):Bs:=if (decide ((rU n d.text).length>(rU n s.name).length)||rU n s.name==[46])=true then rU n d.text else rU n s.name
end NP
namespace Go.Proofs.YtodofogcincleaaGreatDoor
open NQ Go NP Go.RowKit
end Go.Proofs.YtodofogcincleaaGreatDoor
namespace NP
open NQ Go
end NP
namespace Go.Proofs.YtodofogcincleaaGreatDoor
open NQ Go NP Go.RowKit
theorem KN(s:Signed)(h1:s.set.data.length<=100000)(h2:s.sigs.length<=100000):NQ.Fn cx 230 [.agg (ak s)] (.agg ((ak s).map .d)) []:=by
 refine aM aV mixed Tryz.func230 (by kernel_rfl) rfl (ag rfl) ?_;conv=>whnf
 (refine⟨_,_,mS _ (by simpa using h1),?_⟩;conv=>whnf)
 (refine⟨_,_,uc _ (by simpa using h2),?_⟩;conv=>whnf)
 exact al rfl rfl
end Go.Proofs.YtodofogcincleaaGreatDoor
namespace NP
open NQ Go
theorem yU:∀(L:List (Signed×Bs)) (acc:List Bs),(nam acc L).length<=acc.length+L.length
 |[],acc=>by simp[nam]
 |(s,b)::t,acc=>by
  unfold nam;have:=yU t (if yS s.set.name b=true then acc else if yT acc s.set.name=true then acc++[s.set.name]else acc);refine Nat.le_trans this ?_
  repeat' split
  all_goals (try simp)
  all_goals (try omega)
end NP
namespace Go.Proofs.YtodofogcincleaaGreatDoor
open NQ Go NP Go.RowKit
end Go.Proofs.YtodofogcincleaaGreatDoor
namespace NP
open NQ Go
def Ii(t:Int):Int:=IntKind.i64.wrap (1*2 ^ (min t.toNat 64))
def MH:Datum:=⟨[],0,0⟩
def oF:ck:=⟨[],0,0,[]⟩
def named(n:Bs)(s:Signed):Bool:=s.set.name==n
def jo(l:List Signed)(n:Bs):Int:=(l.filter (named n)).foldl (λb s=>bOr .i64 b (Ii s.set.type)) 0
def lX(l:List Signed):Int:=l.foldl (λb s=>if (s.set.type==4)=true then((s.set.data[0]?).getD MH).m else b) 0
def Cp(z:aB)(n:Bs):Int:=if (!(n==z.apex)&&CW .i64 (bOr .i64 (jo z.sets n) 256) 4 != 0)=true then rQ .i64 (bOr .i64 (jo z.sets n) 256) 2 else bOr .i64 (jo z.sets n) 256
def Ct(z:aB)(ns:List Bs)(i:Nat):ck:=⟨(ns[i]?).getD [],8,lX z.sets,[⟨(ns[(i+1) % ns.length]?).getD [],Cp z ((ns[i]?).getD []),0⟩]⟩
def gx(z:aB)(ns:List Bs):List ck:=(List.range ns.length).map (Ct z ns)
theorem LO{z:aB}{ns:List Bs}{i:Nat}(h:i<ns.length):(gx z ns)[i]? =some (Ct z ns i):=by
 unfold gx;rw[aN,List.getElem?_range h];rfl
theorem mI(z:aB)(ns:List Bs):(gx z ns).length=ns.length:=by unfold gx;simp
theorem Ij{l:List Signed}{k:Nat}{s:Signed}(hk:l[k]? =some s)(n:Bs):jo (l.take (k+1)) n=if named n s=true then bOr .i64 (jo (l.take k) n) (Ii s.set.type)else jo (l.take k) n:=by
 unfold jo;rw[bU hk,List.filter_append];cases hn:named n s with
 |true=>simp[hn]
 |false=>simp[hn]
theorem Je{l:List Signed}{k:Nat}{s:Signed}(hk:l[k]? =some s):lX (l.take (k+1))=if (s.set.type==4)=true then((s.set.data[0]?).getD MH).m else lX (l.take k):=by
 unfold lX;rw[bU hk,List.foldl_append];rfl
def xW(m:List (Bs×D))(l:List Signed):Prop:= ∀n,bf n m=if l.any (named n)=true then some (.int .i64 (jo l n))else none
theorem yg{l:List Signed}{n:Bs}(h:l.any (named n)=false):jo l n=0:=by
 unfold jo;have:l.filter (named n)=[]:=by
  rw[List.filter_eq_nil_iff];intro x hx hp;have:=List.any_eq_false.1 h x hx;exact this hp
 rw[this];rfl
theorem xW.put{m:List (Bs×D)}{l:List Signed}{k:Nat}{s:Signed}(h:xW m (l.take k))(hk:l[k]? =some s):xW (bS s.set.name (.int .i64 (bOr .i64 (jo (l.take k) s.set.name) (Ii s.set.type))) m) (l.take (k+1)):=by
 intro n;rw[pr,Ij hk,bU hk,List.any_append];by_cases e:n=s.set.name
 . subst e;have:named s.set.name s=true:=by simp[named]
   simp[this]
 . have:named n s=false:=by simp[named];exact λh=>e h.symm
   rw[if_neg e,h n];simp[this]
end NP
namespace Go.Proofs.YtodofogcincleaaGreatDoor
open NQ Go NP Go.RowKit
theorem QX{c:Cx}{t:TypeId}(a b:Int)(hb:b≠0):Ih c .rem t (.d (.int .i64 a)) (.d (.int .i64 b))=some (.d (.int .i64 (a.tmod b))):=by
 show(match lK .rem .i64 a b with|some r=>some (AV.d r)|none=>none)=_
 unfold lK;rw[decide_eq_false hb]
noncomputable def cxS:Cx:={cx with bld:=[85]}
theorem tyS:ba cxS:=aV
theorem RT:cxS.P.follows .mixedOrders=true:=mixed
set_option maxHeartbeats 2000000 in
theorem FT(z:aB)(ns:List Bs)(hz:z.sets.length<=100000)(hn:ns.length<=100000)(ht:∀s∈z.sets,1<=s.set.type/\ ∃d,s.set.data[0]? =some d) :
 NQ.Fn cx 229 [.agg (aG z),.slice 1 (ns.map bt)] (.d (.slice 4 ((gx z ns).map bJ))) []:=by
 show NQ.Fn cxS _ _ _ _
 refine fC (λ_=>[]) tyS RT Tryz.func229 (by kernel_rfl) rfl (ag rfl) ?_
 conv=>whnf
 refine⟨Nat×List (Bs×D)×Int,λx=>⟨[(1,.d (.slice 1 (ns.map bt))),(2,.ptr 2 0),(5,.omap 16),(6,.d (.int .i64 x.2.2)),(18,.d (.slice 5 (z.sets.map ak))),(19,.d (.int .i64 ((z.sets.map ak).length:Int))),(20,.d (.int .i64 x.1))],[(2,.box ((aG z).map .d)),(16,.smap x.2.1)]⟩,
  λx=>x.1<=z.sets.length/\xW x.2.1 (z.sets.take x.1)/\x.2.2=lX (z.sets.take x.1),λx=>z.sets.length-x.1,
  ⟨(0,[],0),⟨by simp,λn=>rfl,rfl⟩,aF.keep ⟨ae,ae,ae,ae,ae,ae,ae,trivial⟩ ⟨ae,ae,trivial⟩⟩,?_⟩
 rintro⟨k,m,lf⟩ ⟨hk,hm,hlf⟩;simp only at hk hm hlf
 conv=>whnf
 refine af (λh1=>?_) (λh1=>?_) <;> (rw[h1];conv=>whnf)
 . have hlt:k<z.sets.length:=by simp at h1;omega
   obtain⟨s,hs⟩:∃s,z.sets[k]? =some s:=⟨_,aj hlt⟩
   have hm' :=hm.put hs;have hl' :=Je hs;have hfind:=hm s.set.name;obtain⟨ht1,d,hd⟩:=ht s (ar hs);refine⟨aw k,ak s,aD hs,?_⟩;obtain⟨⟨nm,ty,life,data⟩,sigs⟩:=s;obtain⟨t,rfl⟩:∃t:Nat,ty=t:=⟨ty.toNat,by simp only at ht1;omega⟩
   simp only at hm' hl' hfind ht1 hd
   conv=>whnf
   (refine⟨(by kernel_rfl:bC _ _=true),?_⟩;conv=>whnf)
   have step:∀b:Int,(jo (z.sets.take k) nm=b)->xW (bS nm (.int .i64 (bOr .i64 b (Ii t))) m) (z.sets.take (k+1)):=λb hb=>by rw[<- hb];exact hm'
   have four:((t:Int)==4)=true->lX (z.sets.take (k+1))=d.m:=λh=>by rw[hl',if_pos h,hd];rfl
   have nfour:((t:Int)==4)=false->lX (z.sets.take (k+1))=lf:=λh=>by rw[hl',if_neg (by rw[h];decide),hlf]
   cases ha:(z.sets.take k).any (named nm)with
   |true =>
    rw[ha,if_pos rfl]at hfind;rw[show bf (⟨⟨nm,(t:Int),life,data⟩,sigs⟩:Signed).set.name (k,m,lf).snd.fst=_ from hfind]
    conv=>whnf
    refine af (λh2=>?_) (λh2=>?_) <;> (rw[h2];conv=>whnf)
    . refine⟨by decide,aI d,aD (k:=0) hd,?_⟩
      conv=>whnf
      exact⟨(k+1,_,d.m),⟨hlt,step _ rfl,(four h2).symm⟩,by(show z.sets.length-(k+1)<z.sets.length-k;omega),aF.keep ⟨ae,ae,ae,ae,ae,ae,⟨an (by omega),rfl⟩,trivial⟩ ⟨ae,ae,trivial⟩⟩
    . exact⟨(k+1,_,lf),⟨hlt,step _ rfl,(nfour h2).symm⟩,by(show z.sets.length-(k+1)<z.sets.length-k;omega),aF.keep ⟨ae,ae,ae,ae,ae,ae,⟨an (by omega),rfl⟩,trivial⟩ ⟨ae,ae,trivial⟩⟩
   |false =>
    have hb0:=yg ha;rw[ha,if_neg (by decide)]at hfind;rw[show bf (⟨⟨nm,(t:Int),life,data⟩,sigs⟩:Signed).set.name (k,m,lf).snd.fst=_ from hfind]
    conv=>whnf
    refine af (λh2=>?_) (λh2=>?_) <;> (rw[h2];conv=>whnf)
    . refine⟨by decide,aI d,aD (k:=0) hd,?_⟩
      conv=>whnf
      exact⟨(k+1,_,d.m),⟨hlt,step 0 hb0,(four h2).symm⟩,by(show z.sets.length-(k+1)<z.sets.length-k;omega),aF.keep ⟨ae,ae,ae,ae,ae,ae,⟨an (by omega),rfl⟩,trivial⟩ ⟨ae,ae,trivial⟩⟩
    . exact⟨(k+1,_,lf),⟨hlt,step 0 hb0,(nfour h2).symm⟩,by(show z.sets.length-(k+1)<z.sets.length-k;omega),aF.keep ⟨ae,ae,ae,ae,ae,ae,⟨an (by omega),rfl⟩,trivial⟩ ⟨ae,ae,trivial⟩⟩
 . obtain rfl:k=z.sets.length:=by simp at h1;omega
   rw[List.take_length]at hm hlf;subst hlf;have hnl:(ns.map bt).length=ns.length:=ao _;refine⟨by omega,.inl rfl,by omega,by(simp only[ao];omega),by(simp only[ao];omega),?_⟩
   conv=>whnf
   refine ⟨Nat, fun k => ⟨[(1, .d (.slice 1 (ns.map bt))), (2, .ptr 2 0), (5, .omap 16), (6, .d (.int .i64 (lX z.sets))), (9, .own 47), (48, .d (.slice 1 (ns.map bt))), (49, .d (.int .i64 ((ns.map bt).length : Int))), (50, .d (.int .i64 k))],
       [(2,.box ((aG z).map .d)),(16,.smap m),(47,.row 26 4 (((gx z ns).take k++List.replicate (ns.length-k) oF).map bJ) true)]⟩,
    λk=>k<=ns.length,λk=>ns.length-k,⟨0,by omega,aF.keep ⟨ae,ae,ae,ae,ae,ae,ae,ae,trivial⟩ ⟨ae,ae,⟨by(show some (Blk.row _ _ (List.replicate ((ns.map bt).length:Int).toNat _) true)=some (Blk.row _ _ _ true);simp[bJ,oF];done),rfl⟩,trivial⟩⟩,λk hk=>?_⟩
   conv=>whnf
   refine af (λh1=>?_) (λh1=>?_) <;> (rw[h1];conv=>whnf)
   . have hlt:k<ns.length:=by simp at h1;omega
     obtain⟨n,hnk⟩:∃n,ns[k]? =some n:=⟨_,aj hlt⟩
     refine⟨aw k,bt n,aD hnk,?_⟩
     conv=>whnf
     have hns:Ct z ns k=⟨n,8,lX z.sets,[⟨(ns[(k+1) % ns.length]?).getD [],Cp z n,0⟩]⟩:=by unfold Ct;rw[hnk];rfl
     have hfind:=hm n;have ew:IntKind.i64.wrap ((k:Int)+1)=((k+1:Nat):Int):=by rw[wrap_i64 (by omega) (by omega)];omega
     have hmod:(k+1) % ns.length<ns.length:=Nat.mod_lt _ (by omega);obtain⟨n2,hn2⟩:∃n2,ns[(k+1) % ns.length]? =some n2:=⟨_,aj hmod⟩
     have e0:(((ns.map bt).length:Nat):Int)≠0:=by rw[hnl];omega
     have er:=QX (c:=cxS) (t:=3) (IntKind.i64.wrap ((k:Int)+1)) (((ns.map bt).length:Nat):Int) e0;have e1:(IntKind.i64.wrap ((k:Int)+1)).tmod (((ns.map bt).length:Nat):Int)=(((k+1) % ns.length:Nat):Int):=by
      rw[ew,hnl,Int.tmod_eq_emod_of_nonneg (by omega)];rfl
     rw[e1]at er;have hlen:(((gx z ns).take k++List.replicate (ns.length-k) oF).map bJ).length=ns.length:=by
      rw[ao,List.length_append,List.length_take,List.length_replicate,mI];omega
     have hrk:(((gx z ns).take k++List.replicate (ns.length-k) oF).map bJ)[k]? =some (bJ oF):=by
      rw[aN,bX (by rw[List.length_take,mI];omega),List.getElem?_replicate,if_pos (by rw[List.length_take,mI];omega)];rfl
     have hset:=Hw (LO (z:=z) hlt) (mI z ns) (z:=oF);rw[hns,hn2,Option.getD_some]at hset;have fin:∀st',aF cxS st' ⟨[(1,.d (.slice 1 (ns.map bt))),(2,.ptr 2 0),(5,.omap 16),(6,.d (.int .i64 (lX z.sets))),(9,.own 47),(48,.d (.slice 1 (ns.map bt))),(49,.d (.int .i64 ((ns.map bt).length:Int))),(50,.d (.int .i64 (k+1:Nat)))],
      [(2,.box ((aG z).map .d)),(16,.smap m),(47,.row 26 4 ((((gx z ns).take k++List.replicate (ns.length-k) oF).map bJ).set k (bJ ⟨n,8,lX z.sets,[⟨n2,Cp z n,0⟩]⟩)) true)]⟩ ->
       aF cxS st' ⟨[(1,.d (.slice 1 (ns.map bt))),(2,.ptr 2 0),(5,.omap 16),(6,.d (.int .i64 (lX z.sets))),(9,.own 47),(48,.d (.slice 1 (ns.map bt))),(49,.d (.int .i64 ((ns.map bt).length:Int))),(50,.d (.int .i64 (k+1:Nat)))],
      [(2,.box ((aG z).map .d)),(16,.smap m),(47,.row 26 4 (((gx z ns).take (k+1)++List.replicate (ns.length-(k+1)) oF).map bJ) true)]⟩:=λst' h=>by
      rw[<- List.map_set,hset]at h;exact h
     have goal:∀b:Int,jo z.sets n=b->(∀x:Int,(x=if (!(n==z.apex)&&CW .i64 (bOr .i64 b 256) 4 != 0)=true then rQ .i64 (bOr .i64 b 256) 2 else bOr .i64 b 256)->x=Cp z n):=λb hb x hx=>by
      subst hb;rw[hx];rfl
     cases ha:z.sets.any (named n)with
     |true =>
      rw[ha,if_pos rfl]at hfind;have g:=goal _ rfl;rw[hfind]
      conv=>whnf
      repeat' (first
       |(refine af (λh=>?_) (λh=>?_) <;> (rw[h];conv=>whnf))
       | (split
          . rename_i hb;cases hb.symm.trans er
            conv=>whnf
            refine⟨aw _,bt n2,aD hn2,?_⟩
            conv=>whnf
            refine⟨aw k,by(show k<_;rw[hlen];exact hlt),?_⟩
            conv=>whnf
            refine⟨_,hrk,?_⟩
            conv=>whnf
            refine⟨k+1,hlt,by(show ns.length-(k+1)<ns.length-k;omega),fin _ (aF.keep ⟨ae,ae,ae,ae,ae,ae,ae,⟨an (by omega),rfl⟩,trivial⟩ ⟨ae,ae,⟨?_,rfl⟩,trivial⟩)⟩
            first
             |(rw[<- g (rQ .i64 (bOr .i64 (jo z.sets n) 256) 2) (by simp only[*, if_true,if_false,aK])];rfl)
             |(rw[<- g (bOr .i64 (jo z.sets n) 256) (by simp only[*, if_true,if_false,aK])];rfl)
          . rename_i hb;exact absurd (hb.symm.trans er) (by simp))
       |fail)
     |false =>
      rw[ha,if_neg (by decide)]at hfind;have g:=goal 0 (yg ha);have z0:(CW .i64 (bOr .i64 0 256) 4 != 0)=false:=by decide
      rw[hfind]
      conv=>whnf
      repeat' (first
       |(refine af (λh=>?_) (λh=>?_) <;> (rw[h];conv=>whnf))
       | (split
          . rename_i hb;cases hb.symm.trans er
            conv=>whnf
            refine⟨aw _,bt n2,aD hn2,?_⟩
            conv=>whnf
            refine⟨aw k,by(show k<_;rw[hlen];exact hlt),?_⟩
            conv=>whnf
            refine⟨_,hrk,?_⟩
            conv=>whnf
            refine⟨k+1,hlt,by(show ns.length-(k+1)<ns.length-k;omega),fin _ (aF.keep ⟨ae,ae,ae,ae,ae,ae,ae,⟨an (by omega),rfl⟩,trivial⟩ ⟨ae,ae,⟨?_,rfl⟩,trivial⟩)⟩;rw[<- g (bOr .i64 0 256) (by rw[z0,kZ];rfl)];rfl
          . rename_i hb;exact absurd (hb.symm.trans er) (by simp))
       |fail)
   . obtain rfl:k=ns.length:=by simp at h1;omega
     refine al rfl ?_;rw[show(gx z ns).take ns.length=gx z ns from List.take_of_length_le (by rw[mI];omega),Nat.sub_self,List.replicate_zero,List.append_nil];rfl
end Go.Proofs.YtodofogcincleaaGreatDoor
namespace NP
open NQ Go
def kg(s:Signed):Bool:=s.set.type != 8
def ed(z:aB):aB:=⟨z.apex,z.sets.filter kg⟩
def tv(s:Signed):List Signed->Bool
 |x::_=>x.set.name==s.set.name
 |[]=>false
def lM(s:Signed):List ck->Bool
 |y::_=>y.name==s.set.name
 |[]=>false
def gL:List Signed->List ck->List Signed->List Signed
 |[],_,acc=>acc
 |s::t,nx,acc=>if tv s t=true then gL t nx (acc++[s])else if lM s nx=true then gL t nx.tail (acc++[s]++(match nx with|y::_=>[⟨y,[]⟩]|[]=>[]))else gL t nx (acc++[s])
theorem zS(s:Signed)(t:List Signed)(nx:List ck)(acc:List Signed):gL (s::t) nx acc=if tv s t=true then gL t nx (acc++[s])else if lM s nx=true then gL t nx.tail (acc++[s]++(match nx with|y::_=>[⟨y,[]⟩]|[]=>[]))else gL t nx (acc++[s]):=by
 conv=>lhs;rw[gL.eq_def]
theorem BS(nx:List ck)(acc:List Signed):gL [] nx acc=acc:=by rw[gL.eq_def]
def eo(z:aB):aB×Int :=
 if (!aR z)=true then(⟨[],[]⟩,1)else if ((jQ (ed z)).2 != 0)=true then(⟨[],[]⟩,(jQ (ed z)).2)
 else if decide ((((ed z).sets.length:Int)+((jQ (ed z)).1.length:Int))>20000)=true then(⟨[],[]⟩,2)
 else(⟨z.apex,gL (ed z).sets (gx (ed z) (jQ (ed z)).1) []⟩,0)
def fzC:Nat->List Nat
 |11=>[66666]
 |12=>[55555]
 |15=>[66666]
 |18=>[66666]
 |_=>[]
end NP
namespace Go.Proofs.YtodofogcincleaaGreatDoor
open NQ Go NP Go.RowKit
noncomputable def cxC:Cx:={cx with bld:=[64,106]}
theorem tyC:ba cxC:=aV
theorem RS:cxC.P.follows .mixedOrders=true:=mixed
theorem KL(s:Signed):NQ.Fn cx 227 [.agg (ak s)] (.d (.bool (kg s))) []:=by
 refine aM aV mixed Tryz.func227 (by kernel_rfl) rfl (ag rfl) ?_;conv=>whnf
 exact al rfl rfl
def stC(ap:Bs)(y:aB)(nx:List ck):St:=⟨[(2,.ptr 2 0),(4,.ptr 4 0),(7,.d (.slice 4 (nx.map bJ))),(8,.ptr 8 0)],[(2,.box [.d (.str []),.nil 5]),(4,.box ((aG y).map .d)),(8,.box [.d (.str ap),.own 50]),(50,.row 68 5 [])]⟩
def stL(ap:Bs)(y:aB)(k:Nat)(acc:List Signed)(nx:List ck):St:=⟨[(2,.ptr 2 0),(4,.ptr 4 0),(7,.d (.slice 4 (nx.map bJ))),(8,.ptr 8 0),(53,.d (.slice 5 (y.sets.map ak))),(54,.d (.int .i64 ((y.sets.map ak).length:Int))),(55,.d (.int .i64 k))],[(2,.box [.d (.str []),.nil 5]),(4,.box ((aG y).map .d)),(8,.box [.d (.str ap),.own 50]),(50,.row 68 5 (acc.map ak))]⟩
theorem Ir(ap:Bs)(y:aB)(nx0:List ck)(hy:y.sets.length<=20000)(hn:nx0.length<=20000)(hs:∀s∈y.sets,s.set.data.length<=100000/\s.sigs.length<=100000)(st:St)(hw:aF cxC st (stC ap y nx0)) :
 vc cxC Tryz.f187.ntmps fzC (CB 9 ((Tryz.f187.body).getD .skip)) (fnQ cxC Tryz.f187.results.toList (.tuple [.agg ((aG ⟨ap,gL y.sets nx0 []⟩).map .d),.d (.int .i64 0)]) []) st:=by
 conv=>whnf
 refine⟨stC ap y nx0,hw,?_⟩
 conv=>whnf
 refine⟨Nat×List Signed×List ck,λx=>stL ap y x.1 x.2.1 x.2.2,λx=>x.1<=y.sets.length/\x.2.1.length<=2*x.1/\x.2.2.length<=20000/\gL (y.sets.drop x.1) x.2.2 x.2.1=gL y.sets nx0 [],λx=>y.sets.length-x.1,
  ⟨(0,[],nx0),⟨by simp,by simp,hn,rfl⟩,aF.keep ⟨ae,ae,ae,ae,ae,ae,ae,trivial⟩ ⟨ae,ae,ae,ae,trivial⟩⟩,?_⟩
 rintro⟨k,acc,nx⟩ ⟨hk,hl,hnx,hc⟩;simp only at hk hl hnx hc
 conv=>whnf
 refine af (λh1=>?_) (λh1=>?_) <;> (rw[h1];conv=>whnf)
 . have hlt:k<y.sets.length:=by simp at h1;omega
   obtain⟨s,hsk⟩:∃s,y.sets[k]? =some s:=⟨_,aj hlt⟩
   have hdr:y.sets.drop k=s::y.sets.drop (k+1):=by
    rw[List.drop_eq_getElem_cons hlt,(aq.1 hsk).2]
   rw[hdr,zS]at hc;refine⟨aw k,ak s,aD hsk,?_⟩
   conv=>whnf
   (refine⟨(by kernel_rfl:bA _=true),?_⟩;conv=>whnf)
   (refine⟨_,_,KN s (hs s (ar hsk)).1 (hs s (ar hsk)).2,?_⟩;conv=>whnf)
   repeat' (first
    |(refine⟨by kernel_rfl,?_⟩;conv=>whnf)
    |(refine⟨by(show(acc.map ak).length+1<=_;rw[ao];omega),by(show((acc.map ak).length+1)*80<=_;rw[ao];omega),?_⟩;conv=>whnf)
    |fail)
   have ew:IntKind.i64.wrap ((k:Int)+1)=((k+1:Nat):Int):=by rw[wrap_i64 (by omega) (by omega)];omega
   have hlm:((y.sets.map ak).length:Int)=(y.sets.length:Int):=by rw[ao]
   rw[show IntKind.i64.wrap (((k,acc,nx):Nat×List Signed×List ck).fst+1:Int)=_ from ew,hlm];have next:∀(acc' :List Signed) (nx' :List ck),gL (y.sets.drop (k+1)) nx' acc' =gL y.sets nx0 []->acc'.length<=2*(k+1)->nx'.length<=20000-> ∀st',aF cxC st' (stL ap y (k+1) acc' nx') ->
    ∃x:Nat×List Signed×List ck,(x.1<=y.sets.length/\x.2.1.length<=2*x.1/\x.2.2.length<=20000/\gL (y.sets.drop x.1) x.2.2 x.2.1=gL y.sets nx0 [])/\y.sets.length-x.1<y.sets.length-k/\aF cxC st' (stL ap y x.1 x.2.1 x.2.2):=λacc' nx' e1 e2 e3 st' hw=>⟨(k+1,acc',nx'),⟨hlt,e2,e3,e1⟩,by(show y.sets.length-(k+1)<_;omega),hw⟩
   have hl1:(acc++[s]).length<=2*(k+1):=by rw[List.length_append,List.length_singleton];omega
   have e1:(acc++[s]).map ak=acc.map ak++[ak s]:=by rw[List.map_append];rfl
   cases hnx' :y.sets[k+1]? with
   |none =>
    have hge:y.sets.length<=k+1:=by rwa [List.getElem?_eq_none_iff]at hnx'
    have hd0:y.sets.drop (k+1)=[]:=List.drop_eq_nil_of_le hge;have h2:decide (((k+1:Nat):Int)<(y.sets.length:Int))=false:=by rw[decide_eq_false];omega
    rw[h2];rw[if_neg (by rw[hd0];simp[tv])]at hc
    conv=>whnf
    (refine⟨(by kernel_rfl:bC _ _=true),?_⟩;conv=>whnf)
    rcases nx with _|⟨r,nx⟩
    . rw[if_neg (by simp[lM])]at hc
      conv=>whnf
      exact next _ _ hc hl1 hnx _ (aF.keep ⟨ae,ae,ae,ae,ae,ae,⟨an (by omega),rfl⟩,trivial⟩ ⟨ae,ae,ae,⟨by(show some (Blk.row _ _ (_++_))=some (Blk.row _ _ _);rw[e1];rfl),rfl⟩,trivial⟩)
    . have h3:decide (((((r::nx):List ck).map bJ).length:Int)>0)=true:=by rw[decide_eq_true];simp
      rw[show decide (((((k,acc,r::nx):Nat×List Signed×List ck).2.2.map bJ).length:Int)>0)=true from h3]
      conv=>whnf
      refine⟨by decide,bJ r,rfl,?_⟩
      conv=>whnf
      refine af (λh4=>?_) (λh4=>?_) <;> (rw[h4];conv=>whnf)
      . rw[if_pos (show lM s (r::nx)=true from h4)]at hc
        (refine⟨(by kernel_rfl:bA _=true),?_⟩;conv=>whnf)
        refine⟨by decide,bJ r,rfl,?_⟩
        conv=>whnf
        repeat' (first
         |(refine⟨by kernel_rfl,?_⟩;conv=>whnf)
         |(refine⟨by(show(acc.map ak++[ak s]).length+1<=_;rw[List.length_append,ao,List.length_singleton];omega),by(show((acc.map ak++[ak s]).length+1)*80<=_;rw[List.length_append,ao,List.length_singleton];omega),?_⟩;conv=>whnf)
         |(refine⟨by decide,by(show((1:Nat):Int)<=(((r::nx).map bJ).length:Int);rw[ao,List.length_cons];omega),Int.le_refl _,?_⟩;conv=>whnf)
         |fail)
        have e3:(acc++[s]++[(⟨r,[]⟩:Signed)]).map ak=(acc.map ak++[ak s])++[ak ⟨r,[]⟩]:=by rw[List.map_append,e1];rfl
        have e4:(((r::nx).map bJ).drop 1).take (((r::nx).map bJ).length-1)=nx.map bJ:=List.take_of_length_le (by simp);exact next (acc++[s]++[(⟨r,[]⟩:Signed)]) nx hc (by rw[List.length_append,List.length_append,List.length_singleton,List.length_singleton];omega) (by simp at hnx;omega) _ (aF.keep ⟨ae,ae,⟨by(rw[<- e4];rfl),rfl⟩,ae,ae,ae,⟨an (by omega),rfl⟩,trivial⟩ ⟨ae,ae,ae,⟨by(show some (Blk.row _ _ (_++_))=some (Blk.row _ _ _);rw[e3];rfl),rfl⟩,trivial⟩)
      . rw[if_neg (show ¬lM s (r::nx)=true by rw[show lM s (r::nx)=false from h4];decide)]at hc;exact next _ _ hc hl1 hnx _ (aF.keep ⟨ae,ae,ae,ae,ae,ae,⟨an (by omega),rfl⟩,trivial⟩ ⟨ae,ae,ae,⟨by(show some (Blk.row _ _ (_++_))=some (Blk.row _ _ _);rw[e1];rfl),rfl⟩,trivial⟩)
   |some x =>
    have hlt2:k+1<y.sets.length:=(aq.1 hnx').1;have hd1:y.sets.drop (k+1)=x::y.sets.drop (k+2):=by
     rw[List.drop_eq_getElem_cons hlt2,(aq.1 hnx').2]
    have h2:decide (((k+1:Nat):Int)<(y.sets.length:Int))=true:=by rw[decide_eq_true];omega
    have hsn:tv s (y.sets.drop (k+1))=(x.set.name==s.set.name):=by rw[hd1];rfl
    rw[hsn]at hc;rw[h2]
    conv=>whnf
    rw[show IntKind.i64.wrap (((k,acc,nx):Nat×List Signed×List ck).fst+1:Int)=_ from ew];refine⟨aw _,ak x,aD hnx',?_⟩
    conv=>whnf
    refine af (λh5=>?_) (λh5=>?_) <;> (rw[h5];conv=>whnf)
    . rw[if_pos h5]at hc;exact next _ _ hc hl1 hnx _ (aF.keep ⟨ae,ae,ae,ae,ae,ae,⟨an (by omega),rfl⟩,trivial⟩ ⟨ae,ae,ae,⟨by(show some (Blk.row _ _ (_++_))=some (Blk.row _ _ _);rw[e1];rfl),rfl⟩,trivial⟩)
    rw[if_neg (by rw[h5];decide)]at hc
    (refine⟨(by kernel_rfl:bC _ _=true),?_⟩;conv=>whnf)
    rcases nx with _|⟨r,nx⟩
    . rw[if_neg (by simp[lM])]at hc
      conv=>whnf
      exact next _ _ hc hl1 hnx _ (aF.keep ⟨ae,ae,ae,ae,ae,ae,⟨an (by omega),rfl⟩,trivial⟩ ⟨ae,ae,ae,⟨by(show some (Blk.row _ _ (_++_))=some (Blk.row _ _ _);rw[e1];rfl),rfl⟩,trivial⟩)
    . have h3:decide (((((r::nx):List ck).map bJ).length:Int)>0)=true:=by rw[decide_eq_true];simp
      rw[show decide (((((k,acc,r::nx):Nat×List Signed×List ck).2.2.map bJ).length:Int)>0)=true from h3]
      conv=>whnf
      refine⟨by decide,bJ r,rfl,?_⟩
      conv=>whnf
      refine af (λh4=>?_) (λh4=>?_) <;> (rw[h4];conv=>whnf)
      . rw[if_pos (show lM s (r::nx)=true from h4)]at hc
        (refine⟨(by kernel_rfl:bA _=true),?_⟩;conv=>whnf)
        refine⟨by decide,bJ r,rfl,?_⟩
        conv=>whnf
        repeat' (first
         |(refine⟨by kernel_rfl,?_⟩;conv=>whnf)
         |(refine⟨by(show(acc.map ak++[ak s]).length+1<=_;rw[List.length_append,ao,List.length_singleton];omega),by(show((acc.map ak++[ak s]).length+1)*80<=_;rw[List.length_append,ao,List.length_singleton];omega),?_⟩;conv=>whnf)
         |(refine⟨by decide,by(show((1:Nat):Int)<=(((r::nx).map bJ).length:Int);rw[ao,List.length_cons];omega),Int.le_refl _,?_⟩;conv=>whnf)
         |fail)
        have e3:(acc++[s]++[(⟨r,[]⟩:Signed)]).map ak=(acc.map ak++[ak s])++[ak ⟨r,[]⟩]:=by rw[List.map_append,e1];rfl
        have e4:(((r::nx).map bJ).drop 1).take (((r::nx).map bJ).length-1)=nx.map bJ:=List.take_of_length_le (by simp);exact next (acc++[s]++[(⟨r,[]⟩:Signed)]) nx hc (by rw[List.length_append,List.length_append,List.length_singleton,List.length_singleton];omega) (by simp at hnx;omega) _ (aF.keep ⟨ae,ae,⟨by(rw[<- e4];rfl),rfl⟩,ae,ae,ae,⟨an (by omega),rfl⟩,trivial⟩ ⟨ae,ae,ae,⟨by(show some (Blk.row _ _ (_++_))=some (Blk.row _ _ _);rw[e3];rfl),rfl⟩,trivial⟩)
      . rw[if_neg (show ¬lM s (r::nx)=true by rw[show lM s (r::nx)=false from h4];decide)]at hc;exact next _ _ hc hl1 hnx _ (aF.keep ⟨ae,ae,ae,ae,ae,ae,⟨an (by omega),rfl⟩,trivial⟩ ⟨ae,ae,ae,⟨by(show some (Blk.row _ _ (_++_))=some (Blk.row _ _ _);rw[e1];rfl),rfl⟩,trivial⟩)
 . obtain rfl:k=y.sets.length:=by simp at h1;omega
   rw[List.drop_eq_nil_of_le (by omega),BS]at hc;refine al rfl ?_;rw[<- hc];rfl
theorem Dd(z:aB):NQ.Fn cx 187 [.agg (aG z)] (.tuple [.agg ((aG (eo z).1).map .d),.d (.int .i64 (eo z).2)]) []:=by
 show NQ.Fn cxC _ _ _ _
 refine fC fzC tyC RS Tryz.func187 (by kernel_rfl) rfl (ag rfl) ?_
 conv=>whnf
 (refine⟨_,_,iM z,?_⟩;conv=>whnf)
 refine af (λh1=>?_) (λh1=>?_) <;> (rw[h1];conv=>whnf)
 . refine al rfl ?_;rw[eo,if_pos h1];rfl
 have hv:aR z=true:=by simpa using h1
 have ho:=bT hv;have hz:=ho.few;have hR1:eo z=eo z:=rfl
 conv at hR1=>rhs;rw[eo,if_neg (by rw[h1];decide)]
 have fS:=OP z.sets kg (by omega) (λs _=>KL s)
 (refine⟨_,_,fS,?_⟩;conv=>whnf)
 have hbl:(ed z).sets.length<=z.sets.length:=List.length_filter_le _ _;have fN:=Ov (ed z);obtain⟨ns,e,hns⟩:∃ns e,jQ (ed z)=(ns,e):=⟨_,_,rfl⟩
 rw[hns]at fN hR1
 (refine⟨_,_,fN,?_⟩;conv=>whnf)
 refine af (λh2=>?_) (λh2=>?_) <;> (rw[h2];conv=>whnf)
 . refine al rfl ?_;rw[hR1,if_pos h2];rfl
 have hvb:aR (ed z)=true:=by
  cases hvb:aR (ed z)with
  |true=>rfl
  |false =>
   exfalso
   rw[jQ,if_pos (by rw[hvb];rfl)]at hns;cases hns;cases h2
 have hob:=bT hvb;have hnl:ns.length<=(ed z).sets.length:=by
  rw[jQ,if_neg (by rw[hvb];decide)]at hns;cases hns;have h:=yU ((ed z).sets.zip (dh (ed z))) [];have h2:(sh (ed z)).length<=(((ed z).sets.zip (dh (ed z)))).length:=by simpa [sh] using h
  rw[List.length_zip]at h2;omega
 have hty:∀s∈(ed z).sets,1<=s.set.type/\ ∃d,s.set.data[0]? =some d:=λs hs=>by
  have hb:=hob.set s hs;refine⟨(ve hb).1,?_⟩;unfold dG at hb;simp only[aH,Bool.not_eq_true',Bool.or_eq_false_iff,Bool.not_eq_false']at hb;have:=hb.1.1.2;simp[within]at this;exact⟨_,aj (by omega)⟩
 have ew:IntKind.i64.wrap ((((z.sets.filter kg).map ak).length:Int)+((ns.map bt).length:Int))=((ed z).sets.length:Int)+(ns.length:Int):=by
  rw[ao,ao,wrap_i64 (by omega) (by have:(z.sets.filter kg).length=(ed z).sets.length:=rfl;omega)];rfl
 rw[show IntKind.i64.wrap ((((z.sets.filter kg).map ak).length:Int)+(((ns,e).fst.map bt).length:Int))=_ from ew];rw[if_neg (by rw[h2];decide)]at hR1;refine af (λh3=>?_) (λh3=>?_) <;> (rw[h3];conv=>whnf)
 . refine al rfl ?_;rw[hR1,if_pos h3];rfl
 rw[if_neg (by rw[h3];decide)]at hR1
 (refine⟨_,_,FT (ed z) ns (by omega) (by omega) hty,?_⟩;conv=>whnf)
 (refine⟨(by kernel_rfl:bA _=true),?_⟩;conv=>whnf)
 have hsm:=ko hvb;have fin:=Ir z.apex (ed z) (gx (ed z) ns) (by omega) (by rw[mI];omega) (λs hs=>⟨by have:=hsm s hs;omega,by have:=hsm s hs;omega⟩);rw[hR1];refine⟨?_,?_⟩ <;> (conv=>whnf)
 . rw[show IntKind.i64.wrap ((((z.sets.filter kg).map ak).length:Int)+(((ns,e).fst.map bt).length:Int))=_ from ew];refine⟨by decide,.inr rfl,by omega,by(show _*80<=_;omega),by omega,?_⟩
   conv=>whnf
   repeat' (first
    |exact fin _ (aF.keep ⟨ae,ae,ae,ae,trivial⟩ ⟨ae,ae,ae,ae,trivial⟩)
    |(refine⟨by kernel_rfl,?_⟩;conv=>whnf)
    |fail)
 . repeat' (first
    |exact fin _ (aF.keep ⟨ae,ae,ae,ae,trivial⟩ ⟨ae,ae,ae,ae,trivial⟩)
    |(refine⟨by kernel_rfl,?_⟩;conv=>whnf)
    | (rw [show IntKind.i64.wrap ((((z.sets.filter kg).map ak).length : Int) + (((ns, e).fst.map bt).length : Int)) = _ from ew]
       refine⟨by decide,.inr rfl,by omega,by(show _*80<=_;omega),by omega,?_⟩
       conv=>whnf)
    |fail)
end Go.Proofs.YtodofogcincleaaGreatDoor
