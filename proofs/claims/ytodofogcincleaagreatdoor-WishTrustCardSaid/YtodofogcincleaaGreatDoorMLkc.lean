/-
  Merged texts.
-/
import Derived.Test.YtodofogcincleaaGreatDoorMCa
import Derived.Test.YtodofogcincleaaGreatDoorMNh
set_option linter.all false
set_option maxHeartbeats 2000000
set_option maxRecDepth 100000
namespace Go.Proofs.YtodofogcincleaaGreatDoor
open NQ Go.RowKit
theorem Rj{w:World}{v:Value}{ls:List Bs}(h:Strs w v ls){O:Nat->Prop}(hO:∀B off n c,v= .slice (some ⟨B,off,none⟩) n c-> ¬O B):Rep w O (.slice 1 (ls.map ck)) v:=by
 rcases h with ⟨a,c,rfl,rfl⟩|⟨B,off,cap,rfl,hc,hB,hF⟩
 .exact .empty _ _ _
 .refine .slice 1 (ls.map ck) B off ls.length cap (λi _=>match ls[i]? with|some x=> .string (mk x)|none=>undef) (by simp) (hO B off _ _ rfl) hB hc (λr hr=>?_) (λi r j d hi hj=>?_) (λi r j d hi hj=>?_)
  .obtain⟨x,_,rfl⟩:=List.mem_map.1 hr;exact⟨rfl,λd hd=>by simp[ck]at hd;subst hd;rfl⟩
  .rw[bc]at hi;cases hx:ls[i]? with
   |none=>rw[hx]at hi;cases hi
   |some x =>
    rw[hx]at hi;cases hi;rcases j with _|j
    .have:=hF i x hx;rw[Nat.mul_one,Nat.add_zero];exact this
    .simp[ck]at hj
  .rw[bc]at hi;cases hx:ls[i]? with
   |none=>rw[hx]at hi;cases hi
   |some x =>
    rw[hx]at hi;cases hi;rcases j with _|j
    .cases hj;exact .str _ _ (S_mk x)
    .simp[ck]at hj
theorem GF{w:World}{v:Value}(h:Strs w v []){O:Nat->Prop}:Rep w O (.slice 1 []) v:=by
 rcases h with ⟨a,c,rfl,_⟩|⟨B,off,cap,rfl,_⟩
 .exact .empty _ _ _
 .exact .empty _ _ _
theorem Mg(s:Bs):NQ.Fn cx 213 [.str s] (.tuple [.d (.slice 1 ((gx s).1.map ck)),.d (.int .i64 (gx s).2)]) []:=by
 refine⟨⟨_,Tryz.func213,by kernel_rfl,rfl⟩,λO w vs hO hG kr ko hY=>?_⟩;obtain⟨b,hb,rfl⟩:=fY (hY 0 _ rfl);rw[uS ko,hb];refine(Ee b w).mono ?_;rintro e w' ⟨v,rfl,hs,hS,hI⟩;refine⟨_,λ_=> .nilFunc,rfl,hS,⟨λs b hs=>by simp[find]at hs,λs s' b hs=>by simp[live,find]at hs⟩,?_⟩;have hL :Rep w' O (.slice 1 ((gx (S b)).1.map ck)) v:=by
  by_cases hv:bq (S b)=true
  .refine Rj hs λB off n c e kg=>?_
   obtain⟨B',kq,e',hle⟩:=hI hv;rw[e']at e;cases e;have:=hO B kg;omega
  .have e:gx (S b)=([],11):=by unfold gx;rw[if_neg hv]
   rw[e]at hs ⊢;exact GF hs
 refine LQ (.d _ _ (hL.mono (bw.less λb hb=>?_))) (.mkInt _ _);rcases hb with hb|⟨s,hl,_⟩
 .exact hb
 .simp[live,find]at hl
theorem rl{z:aO}(hz:bf z=true):∀s∈z.ak,s.set.data.length<=8/\s.sigs.length<=6:=λs hs =>
 ⟨mw ((bQ hz).set s hs),FE ((xI.1 hz).form s hs)⟩
theorem xZ{α:Type}{l:List α}{k:Nat}{x:α}{p:α->Bool}(h:l[k]? =some x):(l.take (k+1)).filter p=(l.take k).filter p++if p x=true then[x]else[]:=by
 rw[bO h,List.filter_append]
 congr 1
 cases hp:p x <;> simp[hp]
theorem QY(l:List Signed)(p:Signed->Bool)(hn:l.length<=100000)(hf:∀s∈l,NQ.Fn cx 227 [.agg (aw s)] (.d (.bool (p s))) []) :
 NQ.Fn cx 226 [.slice 5 (l.map aw),.fn 227 [] []] (.d (.slice 5 ((l.filter p).map aw))) []:=by
 refine aT bo mixed Tryz.func226 ?_;conv=>whnf
 refine ⟨Nat, fun k => ⟨[(1, .d (.fn 227 [] [])), (5, .own 100), (8, .d (.slice 5 (l.map aw))), (9, .d (.int .i64 (l.map aw).length)), (10, .d (.int .i64 k))],
     [(100,.row 68 5 (((l.take k).filter p).map aw))]⟩,λk=>k<=l.length,λk=>l.length-k,
  ⟨0,by omega,(aK.jV 5 100 5 68 5 rfl rfl (by decide)).trans (aK.keep ⟨ae,ae,ae,ae,ae,trivial⟩ ⟨ae,trivial⟩)⟩,λk hk=>?_⟩
 conv=>whnf
 refine aj (λh1=>?_) (λh1=>?_) <;> (rw[h1];conv=>whnf)
 .have hh:k<l.length:=by simp at h1;omega
  obtain⟨s,hs⟩:∃s,l[k]? =some s:=⟨_,au hh⟩
  have kt:((l.take k).filter p).length<=k:=Nat.le_trans (List.length_filter_le _ _) (by rw[List.length_take];omega);refine⟨aC k,aw s,aM hs,?_⟩;conv=>whnf
  refine⟨_,_,hf s (aD hs),?_⟩;conv=>whnf
  refine aj (λh2=>?_) (λh2=>?_) <;> (rw[h2];conv=>whnf)
  .refine⟨by(show(((l.take k).filter p).map aw).length+1<=_;rw[aA];omega),by(show((((l.take k).filter p).map aw).length+1)*80<=_;rw[aA];omega),?_⟩;conv=>whnf
   refine⟨k+1,hh,by(show l.length-(k+1)<l.length-k;omega),aK.keep ⟨ae,ae,ae,ae,⟨ax (by omega),rfl⟩,trivial⟩ ⟨⟨by(show some (Blk.row _ _ (_++_))=some (Blk.row _ _ _);rw[xZ hs,if_pos h2,List.map_append];rfl),rfl⟩,trivial⟩⟩
  .refine⟨k+1,hh,by(show l.length-(k+1)<l.length-k;omega),aK.keep ⟨ae,ae,ae,ae,⟨ax (by omega),rfl⟩,trivial⟩ ⟨⟨by(rw[xZ hs,if_neg (by rw[h2];decide),List.append_nil];rfl),rfl⟩,trivial⟩⟩
 .obtain rfl:k=l.length:=by simp at h1;omega
  refine al rfl ?_;rw[List.take_length];rfl
def shown(n:Bs)(s:cG)(d:Datum):Bs:=if (decide ((sS n d.text).length>(sS n s.name).length)||sS n s.name==[46])=true then sS n d.text else sS n s.name
theorem MH(s:Signed)(h1:s.set.data.length<=100000)(h2:s.sigs.length<=100000):NQ.Fn cx 230 [.agg (aw s)] (.agg ((aw s).map .d)) []:=by
 refine aT bo mixed Tryz.func230 ?_;conv=>whnf
 (refine⟨_,_,nG _ (by simpa using h1),?_⟩;conv=>whnf)
 (refine⟨_,_,vo _ (by simpa using h2),?_⟩;conv=>whnf)
 exact al rfl rfl
theorem AA:∀(L:List (Signed×Bs)) (acc:List Bs),(nam acc L).length<=acc.length+L.length
 |[],acc=>by simp[nam]
 |(s,b)::t,acc=>by
  unfold nam;have:=AA t (if Ay s.set.name b=true then acc else if Az acc s.set.name=true then acc++[s.set.name]else acc);refine Nat.le_trans this ?_
  repeat' split
  all_goals (try simp)
  all_goals (try omega)
def Kd(t:Int):Int:=IntKind.i64.wrap (1*2 ^ (min t.toNat 64))
def OP:Datum:=⟨[],0,0⟩
def pr:cG:=⟨[],0,0,[]⟩
def named(n:Bs)(s:Signed):Bool:=s.set.name==n
def kf(l:List Signed)(n:Bs):Int:=(l.filter (named n)).foldl (λb s=>bOr .i64 b (Kd s.set.type)) 0
def mR(l:List Signed):Int:=l.foldl (λb s=>if (s.set.type==4)=true then((s.set.data[0]?).getD OP).m else b) 0
def DO(z:aO)(n:Bs):Int:=if (!(n==z.af)&&EA .i64 (bOr .i64 (kf z.ak n) 256) 4 != 0)=true then sP .i64 (bOr .i64 (kf z.ak n) 256) 2 else bOr .i64 (kf z.ak n) 256
def DT(z:aO)(ns:List Bs)(i:Nat):cG:=⟨(ns[i]?).getD [],8,mR z.ak,[⟨(ns[(i+1) % ns.length]?).getD [],DO z ((ns[i]?).getD []),0⟩]⟩
def ie(z:aO)(ns:List Bs):List cG:=(List.range ns.length).map (DT z ns)
theorem NR{z:aO}{ns:List Bs}{i:Nat}(h:i<ns.length):(ie z ns)[i]? =some (DT z ns i):=by
 unfold ie;rw[bc,List.getElem?_range h];rfl
theorem nv(z:aO)(ns:List Bs):(ie z ns).length=ns.length:=by unfold ie;simp
theorem Ke{l:List Signed}{k:Nat}{s:Signed}(hk:l[k]? =some s)(n:Bs):kf (l.take (k+1)) n=if named n s=true then bOr .i64 (kf (l.take k) n) (Kd s.set.type)else kf (l.take k) n:=by
 unfold kf;rw[bO hk,List.filter_append];cases hn:named n s with
 |true=>simp[hn]
 |false=>simp[hn]
theorem KW{l:List Signed}{k:Nat}{s:Signed}(hk:l[k]? =some s):mR (l.take (k+1))=if (s.set.type==4)=true then((s.set.data[0]?).getD OP).m else mR (l.take k):=by
 unfold mR;rw[bO hk,List.foldl_append];rfl
def zB(m:List (Bs×D))(l:List Signed):Prop:= ∀n,bG n m=if l.any (named n)=true then some (.int .i64 (kf l n))else none
theorem zL{l:List Signed}{n:Bs}(h:l.any (named n)=false):kf l n=0:=by
 unfold kf;have:l.filter (named n)=[]:=by
  rw[List.filter_eq_nil_iff];intro x hx hp;have:=List.any_eq_false.1 h x hx;exact this hp
 rw[this];rfl
theorem zB.put{m:List (Bs×D)}{l:List Signed}{k:Nat}{s:Signed}(h:zB m (l.take k))(hk:l[k]? =some s):zB (cM s.set.name (.int .i64 (bOr .i64 (kf (l.take k) s.set.name) (Kd s.set.type))) m) (l.take (k+1)):=by
 intro n;rw[qg,Ke hk,bO hk,List.any_append];by_cases e:n=s.set.name
 .subst e;have:named s.set.name s=true:=by simp[named]
  simp[this]
 .have:named n s=false:=by simp[named];exact λh=>e h.symm
  rw[if_neg e,h n];simp[this]
theorem Tm{c:Cx}{t:TypeId}(a b:Int)(hb:b≠0):Kc c .rem t (.d (.int .i64 a)) (.d (.int .i64 b))=some (.d (.int .i64 (a.tmod b))):=by
 show(match mH .rem .i64 a b with|some r=>some (AV.d r)|none=>none)=_
 unfold mH;rw[decide_eq_false hb]
noncomputable def cxS:Cx:={cx with bld:=[85]}
theorem tyS:bD cxS:=bo
theorem Uf:cxS.P.follows .mixedOrders=true:=mixed
theorem Ic(z:aO)(ns:List Bs)(hz:z.ak.length<=100000)(hn:ns.length<=100000)(ht:∀s∈z.ak,1<=s.set.type/\ ∃d,s.set.data[0]? =some d) :
 NQ.Fn cx 229 [.agg (aX z),.slice 1 (ns.map ck)] (.d (.slice 4 ((ie z ns).map cg))) []:=by
 show NQ.Fn cxS _ _ _ _
 refine eR (λ_=>[]) tyS Uf Tryz.func229 ?_;conv=>whnf
 refine⟨Nat×List (Bs×D)×Int,λx=>⟨[(1,.d (.slice 1 (ns.map ck))),(2,.ptr 2 0),(5,.omap 16),(6,.d (.int .i64 x.2.2)),(18,.d (.slice 5 (z.ak.map aw))),(19,.d (.int .i64 ((z.ak.map aw).length:Int))),(20,.d (.int .i64 x.1))],[(2,.box ((aX z).map .d)),(16,.smap x.2.1)]⟩,
  λx=>x.1<=z.ak.length/\zB x.2.1 (z.ak.take x.1)/\x.2.2=mR (z.ak.take x.1),λx=>z.ak.length-x.1,
  ⟨(0,[],0),⟨by simp,λn=>rfl,rfl⟩,aK.keep ⟨ae,ae,ae,ae,ae,ae,ae,trivial⟩ ⟨ae,ae,trivial⟩⟩,?_⟩
 rintro⟨k,m,lf⟩ ⟨hk,hm,hQ⟩;simp only at hk hm hQ;conv=>whnf
 refine aj (λh1=>?_) (λh1=>?_) <;> (rw[h1];conv=>whnf)
 .have hh:k<z.ak.length:=by simp at h1;omega
  obtain⟨s,hs⟩:∃s,z.ak[k]? =some s:=⟨_,au hh⟩
  have ka :=hm.put hs;have hT :=KW hs;have hg:=hm s.set.name;obtain⟨ke,d,hd⟩:=ht s (aD hs);refine⟨aC k,aw s,aM hs,?_⟩;obtain⟨⟨nm,ty,aP,data⟩,sigs⟩:=s;obtain⟨t,rfl⟩:∃t:Nat,ty=t:=⟨ty.toNat,by simp only at ke;omega⟩
  simp only at ka hT hg ke hd;conv=>whnf
  (refine bV ?_;conv=>whnf)
  have step:∀b:Int,(kf (z.ak.take k) nm=b)->zB (cM nm (.int .i64 (bOr .i64 b (Kd t))) m) (z.ak.take (k+1)):=λb hb=>by rw[<- hb];exact ka
  have four:((t:Int)==4)=true->mR (z.ak.take (k+1))=d.m:=λh=>by rw[hT,if_pos h,hd];rfl
  have hC:((t:Int)==4)=false->mR (z.ak.take (k+1))=lf:=λh=>by rw[hT,if_neg (by rw[h];decide),hQ]
  cases ha:(z.ak.take k).any (named nm)with
  |true =>
   rw[ha,if_pos rfl]at hg;rw[show bG (⟨⟨nm,(t:Int),aP,data⟩,sigs⟩:Signed).set.name (k,m,lf).snd.fst=_ from hg];conv=>whnf
   refine aj (λh2=>?_) (λh2=>?_) <;> (rw[h2];conv=>whnf)
   .refine⟨by decide,aQ d,aM (k:=0) hd,?_⟩;conv=>whnf
    exact⟨(k+1,_,d.m),⟨hh,step _ rfl,(four h2).symm⟩,by(show z.ak.length-(k+1)<z.ak.length-k;omega),aK.keep ⟨ae,ae,ae,ae,ae,ae,⟨ax (by omega),rfl⟩,trivial⟩ ⟨ae,ae,trivial⟩⟩
   .exact⟨(k+1,_,lf),⟨hh,step _ rfl,(hC h2).symm⟩,by(show z.ak.length-(k+1)<z.ak.length-k;omega),aK.keep ⟨ae,ae,ae,ae,ae,ae,⟨ax (by omega),rfl⟩,trivial⟩ ⟨ae,ae,trivial⟩⟩
  |false =>
   have hZ:=zL ha;rw[ha,if_neg (by decide)]at hg;rw[show bG (⟨⟨nm,(t:Int),aP,data⟩,sigs⟩:Signed).set.name (k,m,lf).snd.fst=_ from hg];conv=>whnf
   refine aj (λh2=>?_) (λh2=>?_) <;> (rw[h2];conv=>whnf)
   .refine⟨by decide,aQ d,aM (k:=0) hd,?_⟩;conv=>whnf
    exact⟨(k+1,_,d.m),⟨hh,step 0 hZ,(four h2).symm⟩,by(show z.ak.length-(k+1)<z.ak.length-k;omega),aK.keep ⟨ae,ae,ae,ae,ae,ae,⟨ax (by omega),rfl⟩,trivial⟩ ⟨ae,ae,trivial⟩⟩
   .exact⟨(k+1,_,lf),⟨hh,step 0 hZ,(hC h2).symm⟩,by(show z.ak.length-(k+1)<z.ak.length-k;omega),aK.keep ⟨ae,ae,ae,ae,ae,ae,⟨ax (by omega),rfl⟩,trivial⟩ ⟨ae,ae,trivial⟩⟩
 .obtain rfl:k=z.ak.length:=by simp at h1;omega
  rw[List.take_length]at hm hQ;subst hQ;have hX:(ns.map ck).length=ns.length:=aA _;refine⟨by omega,.inl rfl,by omega,by(simp only[aA];omega),by(simp only[aA];omega),?_⟩;conv=>whnf
  refine ⟨Nat, fun k => ⟨[(1, .d (.slice 1 (ns.map ck))), (2, .ptr 2 0), (5, .omap 16), (6, .d (.int .i64 (mR z.ak))), (9, .own 47), (48, .d (.slice 1 (ns.map ck))), (49, .d (.int .i64 ((ns.map ck).length : Int))), (50, .d (.int .i64 k))],
      [(2,.box ((aX z).map .d)),(16,.smap m),(47,.row 26 4 (((ie z ns).take k++List.replicate (ns.length-k) pr).map cg) true)]⟩,
   λk=>k<=ns.length,λk=>ns.length-k,⟨0,by omega,aK.keep ⟨ae,ae,ae,ae,ae,ae,ae,ae,trivial⟩ ⟨ae,ae,⟨by(show some (Blk.row _ _ (List.replicate ((ns.map ck).length:Int).toNat _) true)=some (Blk.row _ _ _ true);simp[cg,pr];done),rfl⟩,trivial⟩⟩,λk hk=>?_⟩
  conv=>whnf
  refine aj (λh1=>?_) (λh1=>?_) <;> (rw[h1];conv=>whnf)
  .have hh:k<ns.length:=by simp at h1;omega
   obtain⟨n,kb⟩:∃n,ns[k]? =some n:=⟨_,au hh⟩
   refine⟨aC k,ck n,aM kb,?_⟩;conv=>whnf
   have hJ:DT z ns k=⟨n,8,mR z.ak,[⟨(ns[(k+1) % ns.length]?).getD [],DO z n,0⟩]⟩:=by unfold DT;rw[kb];rfl
   have hg:=hm n;have ew:IntKind.i64.wrap ((k:Int)+1)=((k+1:Nat):Int):=by rw[wrap_i64 (by omega) (by omega)];omega
   have hV:(k+1) % ns.length<ns.length:=Nat.mod_lt _ (by omega);obtain⟨n2,hW⟩:∃n2,ns[(k+1) % ns.length]? =some n2:=⟨_,au hV⟩
   have e0:(((ns.map ck).length:Nat):Int)≠0:=by rw[hX];omega
   have er:=Tm (c:=cxS) (t:=3) (IntKind.i64.wrap ((k:Int)+1)) (((ns.map ck).length:Nat):Int) e0;have e1:(IntKind.i64.wrap ((k:Int)+1)).tmod (((ns.map ck).length:Nat):Int)=(((k+1) % ns.length:Nat):Int):=by
    rw[ew,hX,Int.tmod_eq_emod_of_nonneg (by omega)];rfl
   rw[e1]at er;have hlen:(((ie z ns).take k++List.replicate (ns.length-k) pr).map cg).length=ns.length:=by
    rw[aA,List.length_append,List.length_take,List.length_replicate,nv];omega
   have kc:(((ie z ns).take k++List.replicate (ns.length-k) pr).map cg)[k]? =some (cg pr):=by
    rw[bc,cL (by rw[List.length_take,nv];omega),List.getElem?_replicate,if_pos (by rw[List.length_take,nv];omega)];rfl
   have hM:=JK (NR (z:=z) hh) (nv z ns) (z:=pr);rw[hJ,hW,Option.getD_some]at hM;have fin:∀st',aK cxS st' ⟨[(1,.d (.slice 1 (ns.map ck))),(2,.ptr 2 0),(5,.omap 16),(6,.d (.int .i64 (mR z.ak))),(9,.own 47),(48,.d (.slice 1 (ns.map ck))),(49,.d (.int .i64 ((ns.map ck).length:Int))),(50,.d (.int .i64 (k+1:Nat)))],
    [(2,.box ((aX z).map .d)),(16,.smap m),(47,.row 26 4 ((((ie z ns).take k++List.replicate (ns.length-k) pr).map cg).set k (cg ⟨n,8,mR z.ak,[⟨n2,DO z n,0⟩]⟩)) true)]⟩ ->
     aK cxS st' ⟨[(1,.d (.slice 1 (ns.map ck))),(2,.ptr 2 0),(5,.omap 16),(6,.d (.int .i64 (mR z.ak))),(9,.own 47),(48,.d (.slice 1 (ns.map ck))),(49,.d (.int .i64 ((ns.map ck).length:Int))),(50,.d (.int .i64 (k+1:Nat)))],
    [(2,.box ((aX z).map .d)),(16,.smap m),(47,.row 26 4 (((ie z ns).take (k+1)++List.replicate (ns.length-(k+1)) pr).map cg) true)]⟩:=λst' h=>by
    rw[<- List.map_set,hM]at h;exact h
   have goal:∀b:Int,kf z.ak n=b->(∀x:Int,(x=if (!(n==z.af)&&EA .i64 (bOr .i64 b 256) 4 != 0)=true then sP .i64 (bOr .i64 b 256) 2 else bOr .i64 b 256)->x=DO z n):=λb hb x hx=>by
    subst hb;rw[hx];rfl
   cases ha:z.ak.any (named n)with
   |true =>
    rw[ha,if_pos rfl]at hg;have g:=goal _ rfl;rw[hg];conv=>whnf
    repeat' (first
     |(refine aj (λh=>?_) (λh=>?_) <;> (rw[h];conv=>whnf))
     | (split
        .rename_i hb;cases hb.symm.trans er;conv=>whnf
         refine⟨aC _,ck n2,aM hW,?_⟩;conv=>whnf
         refine⟨aC k,by(show k<_;rw[hlen];exact hh),?_⟩;conv=>whnf
         refine⟨_,kc,?_⟩;conv=>whnf
         refine⟨k+1,hh,by(show ns.length-(k+1)<ns.length-k;omega),fin _ (aK.keep ⟨ae,ae,ae,ae,ae,ae,ae,⟨ax (by omega),rfl⟩,trivial⟩ ⟨ae,ae,⟨?_,rfl⟩,trivial⟩)⟩
         first
          |(rw[<- g (sP .i64 (bOr .i64 (kf z.ak n) 256) 2) (by simp only[*, if_true,if_false,aY])];rfl)
          |(rw[<- g (bOr .i64 (kf z.ak n) 256) (by simp only[*, if_true,if_false,aY])];rfl)
        .rename_i hb;exact absurd (hb.symm.trans er) (by simp))
     |fail)
   |false =>
    rw[ha,if_neg (by decide)]at hg;have g:=goal 0 (zL ha);have z0:(EA .i64 (bOr .i64 0 256) 4 != 0)=false:=by decide
    rw[hg];conv=>whnf
    repeat' (first
     |(refine aj (λh=>?_) (λh=>?_) <;> (rw[h];conv=>whnf))
     | (split
        .rename_i hb;cases hb.symm.trans er;conv=>whnf
         refine⟨aC _,ck n2,aM hW,?_⟩;conv=>whnf
         refine⟨aC k,by(show k<_;rw[hlen];exact hh),?_⟩;conv=>whnf
         refine⟨_,kc,?_⟩;conv=>whnf
         refine⟨k+1,hh,by(show ns.length-(k+1)<ns.length-k;omega),fin _ (aK.keep ⟨ae,ae,ae,ae,ae,ae,ae,⟨ax (by omega),rfl⟩,trivial⟩ ⟨ae,ae,⟨?_,rfl⟩,trivial⟩)⟩;rw[<- g (bOr .i64 0 256) (by rw[z0,ma];rfl)];rfl
        .rename_i hb;exact absurd (hb.symm.trans er) (by simp))
     |fail)
  .obtain rfl:k=ns.length:=by simp at h1;omega
   refine al rfl ?_;rw[show(ie z ns).take ns.length=ie z ns from List.take_of_length_le (by rw[nv];omega),Nat.sub_self,List.replicate_zero,List.append_nil];rfl
def lg(s:Signed):Bool:=s.set.type != 8
def fe(z:aO):aO:=⟨z.af,z.ak.filter lg⟩
def uC(s:Signed):List Signed->Bool
 |x::_=>x.set.name==s.set.name
 |[]=>false
def mJ(s:Signed):List cG->Bool
 |y::_=>y.name==s.set.name
 |[]=>false
def iA:List Signed->List cG->List Signed->List Signed
 |[],_,acc=>acc
 |s::t,nx,acc=>if uC s t=true then iA t nx (acc++[s])else if mJ s nx=true then iA t nx.tail (acc++[s]++(match nx with|y::_=>[⟨y,[]⟩]|[]=>[]))else iA t nx (acc++[s])
theorem Bw(s:Signed)(t:List Signed)(nx:List cG)(acc:List Signed):iA (s::t) nx acc=if uC s t=true then iA t nx (acc++[s])else if mJ s nx=true then iA t nx.tail (acc++[s]++(match nx with|y::_=>[⟨y,[]⟩]|[]=>[]))else iA t nx (acc++[s]):=by
 conv=>lhs;rw[iA.eq_def]
theorem Dq(nx:List cG)(acc:List Signed):iA [] nx acc=acc:=by rw[iA.eq_def]
def eV(z:aO):aO×Int :=
 if (!bf z)=true then(⟨[],[]⟩,1)else if ((kQ (fe z)).2 != 0)=true then(⟨[],[]⟩,(kQ (fe z)).2)
 else if decide ((((fe z).ak.length:Int)+((kQ (fe z)).1.length:Int))>20000)=true then(⟨[],[]⟩,2)
 else(⟨z.af,iA (fe z).ak (ie (fe z) (kQ (fe z)).1) []⟩,0)
def fzC:Nat->List Nat
 |11=>[66666]
 |12=>[55555]
 |15=>[66666]
 |18=>[66666]
 |_=>[]
noncomputable def cxC:Cx:={cx with bld:=[64,106]}
theorem tyC:bD cxC:=bo
theorem Ue:cxC.P.follows .mixedOrders=true:=mixed
theorem MG(s:Signed):NQ.Fn cx 227 [.agg (aw s)] (.d (.bool (lg s))) []:=by
 refine aT bo mixed Tryz.func227 ?_;conv=>whnf
 exact al rfl rfl
def stC(ap:Bs)(y:aO)(nx:List cG):St:=⟨[(2,.ptr 2 0),(4,.ptr 4 0),(7,.d (.slice 4 (nx.map cg))),(8,.ptr 8 0)],[(2,.box [.d (.str []),.nil 5]),(4,.box ((aX y).map .d)),(8,.box [.d (.str ap),.own 50]),(50,.row 68 5 [])]⟩
def stL(ap:Bs)(y:aO)(k:Nat)(acc:List Signed)(nx:List cG):St:=⟨[(2,.ptr 2 0),(4,.ptr 4 0),(7,.d (.slice 4 (nx.map cg))),(8,.ptr 8 0),(53,.d (.slice 5 (y.ak.map aw))),(54,.d (.int .i64 ((y.ak.map aw).length:Int))),(55,.d (.int .i64 k))],[(2,.box [.d (.str []),.nil 5]),(4,.box ((aX y).map .d)),(8,.box [.d (.str ap),.own 50]),(50,.row 68 5 (acc.map aw))]⟩
theorem Kl(ap:Bs)(y:aO)(hD:List cG)(hy:y.ak.length<=20000)(hn:hD.length<=20000)(hs:∀s∈y.ak,s.set.data.length<=100000/\s.sigs.length<=100000)(st:St)(hw:aK cxC st (stC ap y hD)) :
 vc cxC Tryz.f187.ntmps fzC (Ec 9 ((Tryz.f187.body).getD .skip)) (fnQ cxC Tryz.f187.results.toList (.tuple [.agg ((aX ⟨ap,iA y.ak hD []⟩).map .d),.d (.int .i64 0)]) []) st:=by
 conv=>whnf
 refine⟨stC ap y hD,hw,?_⟩;conv=>whnf
 refine⟨Nat×List Signed×List cG,λx=>stL ap y x.1 x.2.1 x.2.2,λx=>x.1<=y.ak.length/\x.2.1.length<=2*x.1/\x.2.2.length<=20000/\iA (y.ak.drop x.1) x.2.2 x.2.1=iA y.ak hD [],λx=>y.ak.length-x.1,
  ⟨(0,[],hD),⟨by simp,by simp,hn,rfl⟩,aK.keep ⟨ae,ae,ae,ae,ae,ae,ae,trivial⟩ ⟨ae,ae,ae,ae,trivial⟩⟩,?_⟩
 rintro⟨k,acc,nx⟩ ⟨hk,hl,hA,hc⟩;simp only at hk hl hA hc;conv=>whnf
 refine aj (λh1=>?_) (λh1=>?_) <;> (rw[h1];conv=>whnf)
 .have hh:k<y.ak.length:=by simp at h1;omega
  obtain⟨s,hR⟩:∃s,y.ak[k]? =some s:=⟨_,au hh⟩
  have kj:y.ak.drop k=s::y.ak.drop (k+1):=by
   rw[List.drop_eq_getElem_cons hh,(aB.1 hR).2]
  rw[kj,Bw]at hc;refine⟨aC k,aw s,aM hR,?_⟩;conv=>whnf
  (refine cu ?_;conv=>whnf)
  (refine⟨_,_,MH s (hs s (aD hR)).1 (hs s (aD hR)).2,?_⟩;conv=>whnf)
  repeat' (first
   |(refine⟨by kernel_rfl,?_⟩;conv=>whnf)
   |(refine⟨by(show(acc.map aw).length+1<=_;rw[aA];omega),by(show((acc.map aw).length+1)*80<=_;rw[aA];omega),?_⟩;conv=>whnf)
   |fail)
  have ew:IntKind.i64.wrap ((k:Int)+1)=((k+1:Nat):Int):=by rw[wrap_i64 (by omega) (by omega)];omega
  have kl:((y.ak.map aw).length:Int)=(y.ak.length:Int):=by rw[aA]
  rw[show IntKind.i64.wrap (((k,acc,nx):Nat×List Signed×List cG).fst+1:Int)=_ from ew,kl];have next:∀(hq :List Signed) (hP :List cG),iA (y.ak.drop (k+1)) hP hq =iA y.ak hD []->hq.length<=2*(k+1)->hP.length<=20000-> ∀st',aK cxC st' (stL ap y (k+1) hq hP) ->
   ∃x:Nat×List Signed×List cG,(x.1<=y.ak.length/\x.2.1.length<=2*x.1/\x.2.2.length<=20000/\iA (y.ak.drop x.1) x.2.2 x.2.1=iA y.ak hD [])/\y.ak.length-x.1<y.ak.length-k/\aK cxC st' (stL ap y x.1 x.2.1 x.2.2):=λhq hP e1 e2 e3 st' hw=>⟨(k+1,hq,hP),⟨hh,e2,e3,e1⟩,by(show y.ak.length-(k+1)<_;omega),hw⟩
  have hK:(acc++[s]).length<=2*(k+1):=by rw[List.length_append,List.length_singleton];omega
  have e1:(acc++[s]).map aw=acc.map aw++[aw s]:=by rw[List.map_append];rfl
  cases hnx' :y.ak[k+1]? with
  |none =>
   have kk:y.ak.length<=k+1:=by rwa [List.getElem?_eq_none_iff]at hnx'
   have kh:y.ak.drop (k+1)=[]:=List.drop_eq_nil_of_le kk;have h2:decide (((k+1:Nat):Int)<(y.ak.length:Int))=false:=by rw[decide_eq_false];omega
   rw[h2];rw[if_neg (by rw[kh];simp[uC])]at hc;conv=>whnf
   (refine bV ?_;conv=>whnf)
   rcases nx with _|⟨r,nx⟩
   .rw[if_neg (by simp[mJ])]at hc;conv=>whnf
    exact next _ _ hc hK hA _ (aK.keep ⟨ae,ae,ae,ae,ae,ae,⟨ax (by omega),rfl⟩,trivial⟩ ⟨ae,ae,ae,⟨by(show some (Blk.row _ _ (_++_))=some (Blk.row _ _ _);rw[e1];rfl),rfl⟩,trivial⟩)
   .have h3:decide (((((r::nx):List cG).map cg).length:Int)>0)=true:=by rw[decide_eq_true];simp
    rw[show decide (((((k,acc,r::nx):Nat×List Signed×List cG).2.2.map cg).length:Int)>0)=true from h3];conv=>whnf
    refine⟨by decide,cg r,rfl,?_⟩;conv=>whnf
    refine aj (λh4=>?_) (λh4=>?_) <;> (rw[h4];conv=>whnf)
    .rw[if_pos (show mJ s (r::nx)=true from h4)]at hc
     (refine cu ?_;conv=>whnf)
     refine⟨by decide,cg r,rfl,?_⟩;conv=>whnf
     repeat' (first
      |(refine⟨by kernel_rfl,?_⟩;conv=>whnf)
      |(refine⟨by(show(acc.map aw++[aw s]).length+1<=_;rw[List.length_append,aA,List.length_singleton];omega),by(show((acc.map aw++[aw s]).length+1)*80<=_;rw[List.length_append,aA,List.length_singleton];omega),?_⟩;conv=>whnf)
      |(refine⟨by decide,by(show((1:Nat):Int)<=(((r::nx).map cg).length:Int);rw[aA,List.length_cons];omega),Int.le_refl _,?_⟩;conv=>whnf)
      |fail)
     have e3:(acc++[s]++[(⟨r,[]⟩:Signed)]).map aw=(acc.map aw++[aw s])++[aw ⟨r,[]⟩]:=by rw[List.map_append,e1];rfl
     have e4:(((r::nx).map cg).drop 1).take (((r::nx).map cg).length-1)=nx.map cg:=List.take_of_length_le (by simp);exact next (acc++[s]++[(⟨r,[]⟩:Signed)]) nx hc (by rw[List.length_append,List.length_append,List.length_singleton,List.length_singleton];omega) (by simp at hA;omega) _ (aK.keep ⟨ae,ae,⟨by(rw[<- e4];rfl),rfl⟩,ae,ae,ae,⟨ax (by omega),rfl⟩,trivial⟩ ⟨ae,ae,ae,⟨by(show some (Blk.row _ _ (_++_))=some (Blk.row _ _ _);rw[e3];rfl),rfl⟩,trivial⟩)
    .rw[if_neg (show ¬mJ s (r::nx)=true by rw[show mJ s (r::nx)=false from h4];decide)]at hc;exact next _ _ hc hK hA _ (aK.keep ⟨ae,ae,ae,ae,ae,ae,⟨ax (by omega),rfl⟩,trivial⟩ ⟨ae,ae,ae,⟨by(show some (Blk.row _ _ (_++_))=some (Blk.row _ _ _);rw[e1];rfl),rfl⟩,trivial⟩)
  |some x =>
   have hU:k+1<y.ak.length:=(aB.1 hnx').1;have ki:y.ak.drop (k+1)=x::y.ak.drop (k+2):=by
    rw[List.drop_eq_getElem_cons hU,(aB.1 hnx').2]
   have h2:decide (((k+1:Nat):Int)<(y.ak.length:Int))=true:=by rw[decide_eq_true];omega
   have kn:uC s (y.ak.drop (k+1))=(x.set.name==s.set.name):=by rw[ki];rfl
   rw[kn]at hc;rw[h2];conv=>whnf
   rw[show IntKind.i64.wrap (((k,acc,nx):Nat×List Signed×List cG).fst+1:Int)=_ from ew];refine⟨aC _,aw x,aM hnx',?_⟩;conv=>whnf
   refine aj (λh5=>?_) (λh5=>?_) <;> (rw[h5];conv=>whnf)
   .rw[if_pos h5]at hc;exact next _ _ hc hK hA _ (aK.keep ⟨ae,ae,ae,ae,ae,ae,⟨ax (by omega),rfl⟩,trivial⟩ ⟨ae,ae,ae,⟨by(show some (Blk.row _ _ (_++_))=some (Blk.row _ _ _);rw[e1];rfl),rfl⟩,trivial⟩)
   rw[if_neg (by rw[h5];decide)]at hc
   (refine bV ?_;conv=>whnf)
   rcases nx with _|⟨r,nx⟩
   .rw[if_neg (by simp[mJ])]at hc;conv=>whnf
    exact next _ _ hc hK hA _ (aK.keep ⟨ae,ae,ae,ae,ae,ae,⟨ax (by omega),rfl⟩,trivial⟩ ⟨ae,ae,ae,⟨by(show some (Blk.row _ _ (_++_))=some (Blk.row _ _ _);rw[e1];rfl),rfl⟩,trivial⟩)
   .have h3:decide (((((r::nx):List cG).map cg).length:Int)>0)=true:=by rw[decide_eq_true];simp
    rw[show decide (((((k,acc,r::nx):Nat×List Signed×List cG).2.2.map cg).length:Int)>0)=true from h3];conv=>whnf
    refine⟨by decide,cg r,rfl,?_⟩;conv=>whnf
    refine aj (λh4=>?_) (λh4=>?_) <;> (rw[h4];conv=>whnf)
    .rw[if_pos (show mJ s (r::nx)=true from h4)]at hc
     (refine cu ?_;conv=>whnf)
     refine⟨by decide,cg r,rfl,?_⟩;conv=>whnf
     repeat' (first
      |(refine⟨by kernel_rfl,?_⟩;conv=>whnf)
      |(refine⟨by(show(acc.map aw++[aw s]).length+1<=_;rw[List.length_append,aA,List.length_singleton];omega),by(show((acc.map aw++[aw s]).length+1)*80<=_;rw[List.length_append,aA,List.length_singleton];omega),?_⟩;conv=>whnf)
      |(refine⟨by decide,by(show((1:Nat):Int)<=(((r::nx).map cg).length:Int);rw[aA,List.length_cons];omega),Int.le_refl _,?_⟩;conv=>whnf)
      |fail)
     have e3:(acc++[s]++[(⟨r,[]⟩:Signed)]).map aw=(acc.map aw++[aw s])++[aw ⟨r,[]⟩]:=by rw[List.map_append,e1];rfl
     have e4:(((r::nx).map cg).drop 1).take (((r::nx).map cg).length-1)=nx.map cg:=List.take_of_length_le (by simp);exact next (acc++[s]++[(⟨r,[]⟩:Signed)]) nx hc (by rw[List.length_append,List.length_append,List.length_singleton,List.length_singleton];omega) (by simp at hA;omega) _ (aK.keep ⟨ae,ae,⟨by(rw[<- e4];rfl),rfl⟩,ae,ae,ae,⟨ax (by omega),rfl⟩,trivial⟩ ⟨ae,ae,ae,⟨by(show some (Blk.row _ _ (_++_))=some (Blk.row _ _ _);rw[e3];rfl),rfl⟩,trivial⟩)
    .rw[if_neg (show ¬mJ s (r::nx)=true by rw[show mJ s (r::nx)=false from h4];decide)]at hc;exact next _ _ hc hK hA _ (aK.keep ⟨ae,ae,ae,ae,ae,ae,⟨ax (by omega),rfl⟩,trivial⟩ ⟨ae,ae,ae,⟨by(show some (Blk.row _ _ (_++_))=some (Blk.row _ _ _);rw[e1];rfl),rfl⟩,trivial⟩)
 .obtain rfl:k=y.ak.length:=by simp at h1;omega
  rw[List.drop_eq_nil_of_le (by omega),Dq]at hc;refine al rfl ?_;rw[<- hc];rfl
theorem EI(z:aO):NQ.Fn cx 187 [.agg (aX z)] (.tuple [.agg ((aX (eV z).1).map .d),.d (.int .i64 (eV z).2)]) []:=by
 show NQ.Fn cxC _ _ _ _
 refine eR fzC tyC Ue Tryz.func187 ?_;conv=>whnf
 (refine⟨_,_,jB z,?_⟩;conv=>whnf)
 refine aj (λh1=>?_) (λh1=>?_) <;> (rw[h1];conv=>whnf)
 .refine al rfl ?_;rw[eV,if_pos h1];rfl
 have hv:bf z=true:=by simpa using h1
 have ho:=bQ hv;have hz:=ho.few;have hE:eV z=eV z:=rfl;conv at hE=>rhs;rw[eV,if_neg (by rw[h1];decide)]
 have fS:=QY z.ak lg (by omega) (λs _=>MG s)
 (refine⟨_,_,fS,?_⟩;conv=>whnf)
 have ks:(fe z).ak.length<=z.ak.length:=List.length_filter_le _ _;have fN:=QD (fe z);obtain⟨ns,e,hJ⟩:∃ns e,kQ (fe z)=(ns,e):=⟨_,_,rfl⟩
 rw[hJ]at fN hE
 (refine⟨_,_,fN,?_⟩;conv=>whnf)
 refine aj (λh2=>?_) (λh2=>?_) <;> (rw[h2];conv=>whnf)
 .refine al rfl ?_;rw[hE,if_pos h2];rfl
 have hN:bf (fe z)=true:=by
  cases hN:bf (fe z)with
  |true=>rfl
  |false =>
   exfalso
   rw[kQ,if_pos (by rw[hN];rfl)]at hJ;cases hJ;cases h2
 have km:=bQ hN;have hX:ns.length<=(fe z).ak.length:=by
  rw[kQ,if_neg (by rw[hN];decide)]at hJ;cases hJ;have h:=AA ((fe z).ak.zip (dK (fe z))) [];have h2:(tq (fe z)).length<=(((fe z).ak.zip (dK (fe z)))).length:=by simpa [tq] using h
  rw[List.length_zip]at h2;omega
 have kp:∀s∈(fe z).ak,1<=s.set.type/\ ∃d,s.set.data[0]? =some d:=λs hs=>by
  have hb:=km.set s hs;refine⟨(CZ hb).1,?_⟩;unfold ee at hb;simp only[aU,Bool.not_eq_true',Bool.or_eq_false_iff,Bool.not_eq_false']at hb;have:=hb.1.1.2;simp[within]at this;exact⟨_,au (by omega)⟩
 have ew:IntKind.i64.wrap ((((z.ak.filter lg).map aw).length:Int)+((ns.map ck).length:Int))=((fe z).ak.length:Int)+(ns.length:Int):=by
  rw[aA,aA,wrap_i64 (by omega) (by have:(z.ak.filter lg).length=(fe z).ak.length:=rfl;omega)];rfl
 rw[show IntKind.i64.wrap ((((z.ak.filter lg).map aw).length:Int)+(((ns,e).fst.map ck).length:Int))=_ from ew];rw[if_neg (by rw[h2];decide)]at hE;refine aj (λh3=>?_) (λh3=>?_) <;> (rw[h3];conv=>whnf)
 .refine al rfl ?_;rw[hE,if_pos h3];rfl
 rw[if_neg (by rw[h3];decide)]at hE
 (refine⟨_,_,Ic (fe z) ns (by omega) (by omega) kp,?_⟩;conv=>whnf)
 (refine cu ?_;conv=>whnf)
 have kd:=rl hN;have fin:=Kl z.af (fe z) (ie (fe z) ns) (by omega) (by rw[nv];omega) (λs hs=>⟨by have:=kd s hs;omega,by have:=kd s hs;omega⟩);rw[hE];refine⟨?_,?_⟩ <;> (conv=>whnf)
 .rw[show IntKind.i64.wrap ((((z.ak.filter lg).map aw).length:Int)+(((ns,e).fst.map ck).length:Int))=_ from ew];refine⟨by decide,.inr rfl,by omega,by(show _*80<=_;omega),by omega,?_⟩;conv=>whnf
  repeat' (first
   |exact fin _ (aK.keep ⟨ae,ae,ae,ae,trivial⟩ ⟨ae,ae,ae,ae,trivial⟩)
   |(refine⟨by kernel_rfl,?_⟩;conv=>whnf)
   |fail)
 .repeat' (first
   |exact fin _ (aK.keep ⟨ae,ae,ae,ae,trivial⟩ ⟨ae,ae,ae,ae,trivial⟩)
   |(refine⟨by kernel_rfl,?_⟩;conv=>whnf)
   | (rw [show IntKind.i64.wrap ((((z.ak.filter lg).map aw).length : Int) + (((ns, e).fst.map ck).length : Int)) = _ from ew]
      refine⟨by decide,.inr rfl,by omega,by(show _*80<=_;omega),by omega,?_⟩;conv=>whnf)
   |fail)
end Go.Proofs.YtodofogcincleaaGreatDoor
