/-
  Merged texts.
-/
import Derived.Test.YtodofogcincleaaGreatDoorMCa
import Derived.Test.YtodofogcincleaaGreatDoorMNh
set_option linter.all false
set_option maxHeartbeats 2000000
set_option maxRecDepth 100000
namespace Go.Proofs.YtodofogcincleaaGreatDoor
open NQ Go.RowKit
theorem Rq{w:World}{v:Value}{ls:List Bs}(h:Strs w v ls){O:Nat->Prop}(hO:∀B off n c,v= .slice (some ⟨B,off,none⟩) n c-> ¬O B):Rep w O (.slice 1 (ls.map ck)) v:=by
 rcases h with ⟨a,c,rfl,rfl⟩|⟨B,off,cap,rfl,hc,hB,hF⟩
 .exact .empty _ _ _
 .refine .slice 1 (ls.map ck) B off ls.length cap (λi _=>match ls[i]? with|some x=> .string (mk x)|none=>undef) (by simp) (hO B off _ _ rfl) hB hc (λr hr=>?_) (λi r j d hi hj=>?_) (λi r j d hi hj=>?_)
  .obtain⟨x,_,rfl⟩:=List.mem_map.1 hr;exact⟨rfl,λd hd=>by simp[ck]at hd;subst hd;rfl⟩
  .rw[bc]at hi;cases hx:ls[i]? with
   |none=>rw[hx]at hi;cases hi
   |some x =>
    rw[hx]at hi;cases hi;rcases j with _|j
    .have:=hF i x hx;rw[Nat.mul_one,Nat.add_zero];exact this
    .simp[ck]at hj
  .rw[bc]at hi;cases hx:ls[i]? with
   |none=>rw[hx]at hi;cases hi
   |some x =>
    rw[hx]at hi;cases hi;rcases j with _|j
    .cases hj;exact .str _ _ (S_mk x)
    .simp[ck]at hj
theorem GJ{w:World}{v:Value}(h:Strs w v []){O:Nat->Prop}:Rep w O (.slice 1 []) v:=by
 rcases h with ⟨a,c,rfl,_⟩|⟨B,off,cap,rfl,_⟩
 .exact .empty _ _ _
 .exact .empty _ _ _
theorem Mm(s:Bs):NQ.Fn cx 213 [.str s] (.tuple [.d (.slice 1 ((gx s).1.map ck)),.d (.int .i64 (gx s).2)]) []:=by
 refine⟨⟨_,Tryz.func213,by kernel_rfl,rfl⟩,λO w vs hO hG kr ko hY=>?_⟩;obtain⟨b,hb,rfl⟩:=fY (hY 0 _ rfl);rw[uV ko,hb];refine(Eg b w).mono ?_;rintro e w' ⟨v,rfl,hs,hS,hI⟩;refine⟨_,λ_=> .nilFunc,rfl,hS,⟨λs b hs=>by simp[find]at hs,λs s' b hs=>by simp[live,find]at hs⟩,?_⟩;have hL :Rep w' O (.slice 1 ((gx (S b)).1.map ck)) v:=by
  by_cases hv:bk (S b)=true
  .refine Rq hs λB off n c e kg=>?_
   obtain⟨B',kq,e',hle⟩:=hI hv;rw[e']at e;cases e;have:=hO B kg;omega
  .have e:gx (S b)=([],11):=by unfold gx;rw[if_neg hv]
   rw[e]at hs ⊢;exact GJ hs
 refine LX (.d _ _ (hL.mono (bw.less λb hb=>?_))) (.mkInt _ _);rcases hb with hb|⟨s,hl,_⟩
 .exact hb
 .simp[live,find]at hl
theorem rn{z:aL}(hz:bf z=true):∀s∈z.aj,s.set.data.length<=8/\s.sigs.length<=6:=λs hs =>
 ⟨mw ((bO hz).set s hs),FG ((xM.1 hz).form s hs)⟩
theorem yd{α:Type}{l:List α}{k:Nat}{x:α}{p:α->Bool}(h:l[k]? =some x):(l.take (k+1)).filter p=(l.take k).filter p++if p x=true then[x]else[]:=by
 rw[bP h,List.filter_append]
 congr 1
 cases hp:p x <;> simp[hp]
theorem Rg(l:List Signed)(p:Signed->Bool)(hn:l.length<=100000)(hf:∀s∈l,NQ.Fn cx 227 [.agg (aw s)] (.d (.bool (p s))) []) :
 NQ.Fn cx 226 [.slice 5 (l.map aw),.fn 227 [] []] (.d (.slice 5 ((l.filter p).map aw))) []:=by
 refine aU bp mixed Tryz.func226 ?_;conv=>whnf
 refine ⟨Nat, fun k => ⟨[(1, .d (.fn 227 [] [])), (5, .own 100), (8, .d (.slice 5 (l.map aw))), (9, .d (.int .i64 (l.map aw).length)), (10, .d (.int .i64 k))],
     [(100,.row 68 5 (((l.take k).filter p).map aw))]⟩,λk=>k<=l.length,λk=>l.length-k,
  ⟨0,by omega,(aK.jV 5 100 5 68 5 rfl rfl (by decide)).trans (aK.keep ⟨ae,ae,ae,ae,ae,trivial⟩ ⟨ae,trivial⟩)⟩,λk hk=>?_⟩
 conv=>whnf
 refine ak (λh1=>?_) (λh1=>?_) <;> (rw[h1];conv=>whnf)
 .have hh:k<l.length:=by simp at h1;omega
  obtain⟨s,hs⟩:∃s,l[k]? =some s:=⟨_,au hh⟩
  have kt:((l.take k).filter p).length<=k:=Nat.le_trans (List.length_filter_le _ _) (by rw[List.length_take];omega);refine⟨aD k,aw s,aN hs,?_⟩;conv=>whnf
  refine⟨_,_,hf s (aC hs),?_⟩;conv=>whnf
  refine ak (λh2=>?_) (λh2=>?_) <;> (rw[h2];conv=>whnf)
  .refine⟨by(show(((l.take k).filter p).map aw).length+1<=_;rw[aA];omega),by(show((((l.take k).filter p).map aw).length+1)*80<=_;rw[aA];omega),?_⟩;conv=>whnf
   refine⟨k+1,hh,by(show l.length-(k+1)<l.length-k;omega),aK.keep ⟨ae,ae,ae,ae,⟨ax (by omega),rfl⟩,trivial⟩ ⟨⟨by(show some (Blk.row _ _ (_++_))=some (Blk.row _ _ _);rw[yd hs,if_pos h2,List.map_append];rfl),rfl⟩,trivial⟩⟩
  .refine⟨k+1,hh,by(show l.length-(k+1)<l.length-k;omega),aK.keep ⟨ae,ae,ae,ae,⟨ax (by omega),rfl⟩,trivial⟩ ⟨⟨by(rw[yd hs,if_neg (by rw[h2];decide),List.append_nil];rfl),rfl⟩,trivial⟩⟩
 .obtain rfl:k=l.length:=by simp at h1;omega
  refine al rfl ?_;rw[List.take_length];rfl
def shown(n:Bs)(s:cG)(d:Datum):Bs:=if (decide ((sW n d.text).length>(sW n s.name).length)||sW n s.name==[46])=true then sW n d.text else sW n s.name
theorem MN(s:Signed)(h1:s.set.data.length<=100000)(h2:s.sigs.length<=100000):NQ.Fn cx 230 [.agg (aw s)] (.agg ((aw s).map .d)) []:=by
 refine aU bp mixed Tryz.func230 ?_;conv=>whnf
 (refine⟨_,_,nI _ (by simpa using h1),?_⟩;conv=>whnf)
 (refine⟨_,_,vu _ (by simpa using h2),?_⟩;conv=>whnf)
 exact al rfl rfl
theorem AE:∀(L:List (Signed×Bs)) (acc:List Bs),(nam acc L).length<=acc.length+L.length
 |[],acc=>by simp[nam]
 |(s,b)::t,acc=>by
  unfold nam;have:=AE t (if AB s.set.name b=true then acc else if AD acc s.set.name=true then acc++[s.set.name]else acc);refine Nat.le_trans this ?_
  repeat' split
  all_goals (try simp)
  all_goals (try omega)
def Kh(t:Int):Int:=IntKind.i64.wrap (1*2 ^ (min t.toNat 64))
def OT:Datum:=⟨[],0,0⟩
def pr:cG:=⟨[],0,0,[]⟩
def named(n:Bs)(s:Signed):Bool:=s.set.name==n
def kf(l:List Signed)(n:Bs):Int:=(l.filter (named n)).foldl (λb s=>bOr .i64 b (Kh s.set.type)) 0
def mT(l:List Signed):Int:=l.foldl (λb s=>if (s.set.type==4)=true then((s.set.data[0]?).getD OT).m else b) 0
def DQ(z:aL)(n:Bs):Int:=if (!(n==z.af)&&EC .i64 (bOr .i64 (kf z.aj n) 256) 4 != 0)=true then sS .i64 (bOr .i64 (kf z.aj n) 256) 2 else bOr .i64 (kf z.aj n) 256
def DV(z:aL)(ns:List Bs)(i:Nat):cG:=⟨(ns[i]?).getD [],8,mT z.aj,[⟨(ns[(i+1) % ns.length]?).getD [],DQ z ((ns[i]?).getD []),0⟩]⟩
def ig(z:aL)(ns:List Bs):List cG:=(List.range ns.length).map (DV z ns)
theorem NW{z:aL}{ns:List Bs}{i:Nat}(h:i<ns.length):(ig z ns)[i]? =some (DV z ns i):=by
 unfold ig;rw[bc,List.getElem?_range h];rfl
theorem ny(z:aL)(ns:List Bs):(ig z ns).length=ns.length:=by unfold ig;simp
theorem Ki{l:List Signed}{k:Nat}{s:Signed}(hk:l[k]? =some s)(n:Bs):kf (l.take (k+1)) n=if named n s=true then bOr .i64 (kf (l.take k) n) (Kh s.set.type)else kf (l.take k) n:=by
 unfold kf;rw[bP hk,List.filter_append];cases hn:named n s with
 |true=>simp[hn]
 |false=>simp[hn]
theorem La{l:List Signed}{k:Nat}{s:Signed}(hk:l[k]? =some s):mT (l.take (k+1))=if (s.set.type==4)=true then((s.set.data[0]?).getD OT).m else mT (l.take k):=by
 unfold mT;rw[bP hk,List.foldl_append];rfl
def zF(m:List (Bs×D))(l:List Signed):Prop:= ∀n,bG n m=if l.any (named n)=true then some (.int .i64 (kf l n))else none
theorem zO{l:List Signed}{n:Bs}(h:l.any (named n)=false):kf l n=0:=by
 unfold kf;have:l.filter (named n)=[]:=by
  rw[List.filter_eq_nil_iff];intro x hx hp;have:=List.any_eq_false.1 h x hx;exact this hp
 rw[this];rfl
theorem zF.put{m:List (Bs×D)}{l:List Signed}{k:Nat}{s:Signed}(h:zF m (l.take k))(hk:l[k]? =some s):zF (cM s.set.name (.int .i64 (bOr .i64 (kf (l.take k) s.set.name) (Kh s.set.type))) m) (l.take (k+1)):=by
 intro n;rw[qg,Ki hk,bP hk,List.any_append];by_cases e:n=s.set.name
 .subst e;have:named s.set.name s=true:=by simp[named]
  simp[this]
 .have:named n s=false:=by simp[named];exact λh=>e h.symm
  rw[if_neg e,h n];simp[this]
theorem Tu{c:Cx}{t:TypeId}(a b:Int)(hb:b≠0):Kg c .rem t (.d (.int .i64 a)) (.d (.int .i64 b))=some (.d (.int .i64 (a.tmod b))):=by
 show(match mI .rem .i64 a b with|some r=>some (AV.d r)|none=>none)=_
 unfold mI;rw[decide_eq_false hb]
noncomputable def cxS:Cx:={cx with bld:=[85]}
theorem tyS:bD cxS:=bp
theorem Un:cxS.P.follows .mixedOrders=true:=mixed
theorem Ih(z:aL)(ns:List Bs)(hz:z.aj.length<=100000)(hn:ns.length<=100000)(ht:∀s∈z.aj,1<=s.set.type/\ ∃d,s.set.data[0]? =some d) :
 NQ.Fn cx 229 [.agg (aX z),.slice 1 (ns.map ck)] (.d (.slice 4 ((ig z ns).map cg))) []:=by
 show NQ.Fn cxS _ _ _ _
 refine eS (λ_=>[]) tyS Un Tryz.func229 ?_;conv=>whnf
 refine⟨Nat×List (Bs×D)×Int,λx=>⟨[(1,.d (.slice 1 (ns.map ck))),(2,.ptr 2 0),(5,.omap 16),(6,.d (.int .i64 x.2.2)),(18,.d (.slice 5 (z.aj.map aw))),(19,.d (.int .i64 ((z.aj.map aw).length:Int))),(20,.d (.int .i64 x.1))],[(2,.box ((aX z).map .d)),(16,.smap x.2.1)]⟩,
  λx=>x.1<=z.aj.length/\zF x.2.1 (z.aj.take x.1)/\x.2.2=mT (z.aj.take x.1),λx=>z.aj.length-x.1,
  ⟨(0,[],0),⟨by simp,λn=>rfl,rfl⟩,aK.keep ⟨ae,ae,ae,ae,ae,ae,ae,trivial⟩ ⟨ae,ae,trivial⟩⟩,?_⟩
 rintro⟨k,m,lf⟩ ⟨hk,hm,hQ⟩;simp only at hk hm hQ;conv=>whnf
 refine ak (λh1=>?_) (λh1=>?_) <;> (rw[h1];conv=>whnf)
 .have hh:k<z.aj.length:=by simp at h1;omega
  obtain⟨s,hs⟩:∃s,z.aj[k]? =some s:=⟨_,au hh⟩
  have ka :=hm.put hs;have hT :=La hs;have hg:=hm s.set.name;obtain⟨ke,d,hd⟩:=ht s (aC hs);refine⟨aD k,aw s,aN hs,?_⟩;obtain⟨⟨nm,ty,aP,data⟩,sigs⟩:=s;obtain⟨t,rfl⟩:∃t:Nat,ty=t:=⟨ty.toNat,by simp only at ke;omega⟩
  simp only at ka hT hg ke hd;conv=>whnf
  (refine bV ?_;conv=>whnf)
  have step:∀b:Int,(kf (z.aj.take k) nm=b)->zF (cM nm (.int .i64 (bOr .i64 b (Kh t))) m) (z.aj.take (k+1)):=λb hb=>by rw[<- hb];exact ka
  have four:((t:Int)==4)=true->mT (z.aj.take (k+1))=d.m:=λh=>by rw[hT,if_pos h,hd];rfl
  have hC:((t:Int)==4)=false->mT (z.aj.take (k+1))=lf:=λh=>by rw[hT,if_neg (by rw[h];decide),hQ]
  cases ha:(z.aj.take k).any (named nm)with
  |true =>
   rw[ha,if_pos rfl]at hg;rw[show bG (⟨⟨nm,(t:Int),aP,data⟩,sigs⟩:Signed).set.name (k,m,lf).snd.fst=_ from hg];conv=>whnf
   refine ak (λh2=>?_) (λh2=>?_) <;> (rw[h2];conv=>whnf)
   .refine⟨by decide,aQ d,aN (k:=0) hd,?_⟩;conv=>whnf
    exact⟨(k+1,_,d.m),⟨hh,step _ rfl,(four h2).symm⟩,by(show z.aj.length-(k+1)<z.aj.length-k;omega),aK.keep ⟨ae,ae,ae,ae,ae,ae,⟨ax (by omega),rfl⟩,trivial⟩ ⟨ae,ae,trivial⟩⟩
   .exact⟨(k+1,_,lf),⟨hh,step _ rfl,(hC h2).symm⟩,by(show z.aj.length-(k+1)<z.aj.length-k;omega),aK.keep ⟨ae,ae,ae,ae,ae,ae,⟨ax (by omega),rfl⟩,trivial⟩ ⟨ae,ae,trivial⟩⟩
  |false =>
   have hZ:=zO ha;rw[ha,if_neg (by decide)]at hg;rw[show bG (⟨⟨nm,(t:Int),aP,data⟩,sigs⟩:Signed).set.name (k,m,lf).snd.fst=_ from hg];conv=>whnf
   refine ak (λh2=>?_) (λh2=>?_) <;> (rw[h2];conv=>whnf)
   .refine⟨by decide,aQ d,aN (k:=0) hd,?_⟩;conv=>whnf
    exact⟨(k+1,_,d.m),⟨hh,step 0 hZ,(four h2).symm⟩,by(show z.aj.length-(k+1)<z.aj.length-k;omega),aK.keep ⟨ae,ae,ae,ae,ae,ae,⟨ax (by omega),rfl⟩,trivial⟩ ⟨ae,ae,trivial⟩⟩
   .exact⟨(k+1,_,lf),⟨hh,step 0 hZ,(hC h2).symm⟩,by(show z.aj.length-(k+1)<z.aj.length-k;omega),aK.keep ⟨ae,ae,ae,ae,ae,ae,⟨ax (by omega),rfl⟩,trivial⟩ ⟨ae,ae,trivial⟩⟩
 .obtain rfl:k=z.aj.length:=by simp at h1;omega
  rw[List.take_length]at hm hQ;subst hQ;have hX:(ns.map ck).length=ns.length:=aA _;refine⟨by omega,.inl rfl,by omega,by(simp only[aA];omega),by(simp only[aA];omega),?_⟩;conv=>whnf
  refine ⟨Nat, fun k => ⟨[(1, .d (.slice 1 (ns.map ck))), (2, .ptr 2 0), (5, .omap 16), (6, .d (.int .i64 (mT z.aj))), (9, .own 47), (48, .d (.slice 1 (ns.map ck))), (49, .d (.int .i64 ((ns.map ck).length : Int))), (50, .d (.int .i64 k))],
      [(2,.box ((aX z).map .d)),(16,.smap m),(47,.row 26 4 (((ig z ns).take k++List.replicate (ns.length-k) pr).map cg) true)]⟩,
   λk=>k<=ns.length,λk=>ns.length-k,⟨0,by omega,aK.keep ⟨ae,ae,ae,ae,ae,ae,ae,ae,trivial⟩ ⟨ae,ae,⟨by(show some (Blk.row _ _ (List.replicate ((ns.map ck).length:Int).toNat _) true)=some (Blk.row _ _ _ true);simp[cg,pr];done),rfl⟩,trivial⟩⟩,λk hk=>?_⟩
  conv=>whnf
  refine ak (λh1=>?_) (λh1=>?_) <;> (rw[h1];conv=>whnf)
  .have hh:k<ns.length:=by simp at h1;omega
   obtain⟨n,kb⟩:∃n,ns[k]? =some n:=⟨_,au hh⟩
   refine⟨aD k,ck n,aN kb,?_⟩;conv=>whnf
   have hJ:DV z ns k=⟨n,8,mT z.aj,[⟨(ns[(k+1) % ns.length]?).getD [],DQ z n,0⟩]⟩:=by unfold DV;rw[kb];rfl
   have hg:=hm n;have ew:IntKind.i64.wrap ((k:Int)+1)=((k+1:Nat):Int):=by rw[wrap_i64 (by omega) (by omega)];omega
   have hV:(k+1) % ns.length<ns.length:=Nat.mod_lt _ (by omega);obtain⟨n2,hW⟩:∃n2,ns[(k+1) % ns.length]? =some n2:=⟨_,au hV⟩
   have e0:(((ns.map ck).length:Nat):Int)≠0:=by rw[hX];omega
   have er:=Tu (c:=cxS) (t:=3) (IntKind.i64.wrap ((k:Int)+1)) (((ns.map ck).length:Nat):Int) e0;have e1:(IntKind.i64.wrap ((k:Int)+1)).tmod (((ns.map ck).length:Nat):Int)=(((k+1) % ns.length:Nat):Int):=by
    rw[ew,hX,Int.tmod_eq_emod_of_nonneg (by omega)];rfl
   rw[e1]at er;have hlen:(((ig z ns).take k++List.replicate (ns.length-k) pr).map cg).length=ns.length:=by
    rw[aA,List.length_append,List.length_take,List.length_replicate,ny];omega
   have kc:(((ig z ns).take k++List.replicate (ns.length-k) pr).map cg)[k]? =some (cg pr):=by
    rw[bc,cL (by rw[List.length_take,ny];omega),List.getElem?_replicate,if_pos (by rw[List.length_take,ny];omega)];rfl
   have hM:=JO (NW (z:=z) hh) (ny z ns) (z:=pr);rw[hJ,hW,Option.getD_some]at hM;have fin:∀st',aK cxS st' ⟨[(1,.d (.slice 1 (ns.map ck))),(2,.ptr 2 0),(5,.omap 16),(6,.d (.int .i64 (mT z.aj))),(9,.own 47),(48,.d (.slice 1 (ns.map ck))),(49,.d (.int .i64 ((ns.map ck).length:Int))),(50,.d (.int .i64 (k+1:Nat)))],
    [(2,.box ((aX z).map .d)),(16,.smap m),(47,.row 26 4 ((((ig z ns).take k++List.replicate (ns.length-k) pr).map cg).set k (cg ⟨n,8,mT z.aj,[⟨n2,DQ z n,0⟩]⟩)) true)]⟩ ->
     aK cxS st' ⟨[(1,.d (.slice 1 (ns.map ck))),(2,.ptr 2 0),(5,.omap 16),(6,.d (.int .i64 (mT z.aj))),(9,.own 47),(48,.d (.slice 1 (ns.map ck))),(49,.d (.int .i64 ((ns.map ck).length:Int))),(50,.d (.int .i64 (k+1:Nat)))],
    [(2,.box ((aX z).map .d)),(16,.smap m),(47,.row 26 4 (((ig z ns).take (k+1)++List.replicate (ns.length-(k+1)) pr).map cg) true)]⟩:=λst' h=>by
    rw[<- List.map_set,hM]at h;exact h
   have goal:∀b:Int,kf z.aj n=b->(∀x:Int,(x=if (!(n==z.af)&&EC .i64 (bOr .i64 b 256) 4 != 0)=true then sS .i64 (bOr .i64 b 256) 2 else bOr .i64 b 256)->x=DQ z n):=λb hb x hx=>by
    subst hb;rw[hx];rfl
   cases ha:z.aj.any (named n)with
   |true =>
    rw[ha,if_pos rfl]at hg;have g:=goal _ rfl;rw[hg];conv=>whnf
    repeat' (first
     |(refine ak (λh=>?_) (λh=>?_) <;> (rw[h];conv=>whnf))
     | (split
        .rename_i hb;cases hb.symm.trans er;conv=>whnf
         refine⟨aD _,ck n2,aN hW,?_⟩;conv=>whnf
         refine⟨aD k,by(show k<_;rw[hlen];exact hh),?_⟩;conv=>whnf
         refine⟨_,kc,?_⟩;conv=>whnf
         refine⟨k+1,hh,by(show ns.length-(k+1)<ns.length-k;omega),fin _ (aK.keep ⟨ae,ae,ae,ae,ae,ae,ae,⟨ax (by omega),rfl⟩,trivial⟩ ⟨ae,ae,⟨?_,rfl⟩,trivial⟩)⟩
         first
          |(rw[<- g (sS .i64 (bOr .i64 (kf z.aj n) 256) 2) (by simp only[*, if_true,if_false,aY])];rfl)
          |(rw[<- g (bOr .i64 (kf z.aj n) 256) (by simp only[*, if_true,if_false,aY])];rfl)
        .rename_i hb;exact absurd (hb.symm.trans er) (by simp))
     |fail)
   |false =>
    rw[ha,if_neg (by decide)]at hg;have g:=goal 0 (zO ha);have z0:(EC .i64 (bOr .i64 0 256) 4 != 0)=false:=by decide
    rw[hg];conv=>whnf
    repeat' (first
     |(refine ak (λh=>?_) (λh=>?_) <;> (rw[h];conv=>whnf))
     | (split
        .rename_i hb;cases hb.symm.trans er;conv=>whnf
         refine⟨aD _,ck n2,aN hW,?_⟩;conv=>whnf
         refine⟨aD k,by(show k<_;rw[hlen];exact hh),?_⟩;conv=>whnf
         refine⟨_,kc,?_⟩;conv=>whnf
         refine⟨k+1,hh,by(show ns.length-(k+1)<ns.length-k;omega),fin _ (aK.keep ⟨ae,ae,ae,ae,ae,ae,ae,⟨ax (by omega),rfl⟩,trivial⟩ ⟨ae,ae,⟨?_,rfl⟩,trivial⟩)⟩;rw[<- g (bOr .i64 0 256) (by rw[z0,mf];rfl)];rfl
        .rename_i hb;exact absurd (hb.symm.trans er) (by simp))
     |fail)
  .obtain rfl:k=ns.length:=by simp at h1;omega
   refine al rfl ?_;rw[show(ig z ns).take ns.length=ig z ns from List.take_of_length_le (by rw[ny];omega),Nat.sub_self,List.replicate_zero,List.append_nil];rfl
def ll(s:Signed):Bool:=s.set.type != 8
def ff(z:aL):aL:=⟨z.af,z.aj.filter ll⟩
def uG(s:Signed):List Signed->Bool
 |x::_=>x.set.name==s.set.name
 |[]=>false
def mK(s:Signed):List cG->Bool
 |y::_=>y.name==s.set.name
 |[]=>false
def iB:List Signed->List cG->List Signed->List Signed
 |[],_,acc=>acc
 |s::t,nx,acc=>if uG s t=true then iB t nx (acc++[s])else if mK s nx=true then iB t nx.tail (acc++[s]++(match nx with|y::_=>[⟨y,[]⟩]|[]=>[]))else iB t nx (acc++[s])
theorem Bz(s:Signed)(t:List Signed)(nx:List cG)(acc:List Signed):iB (s::t) nx acc=if uG s t=true then iB t nx (acc++[s])else if mK s nx=true then iB t nx.tail (acc++[s]++(match nx with|y::_=>[⟨y,[]⟩]|[]=>[]))else iB t nx (acc++[s]):=by
 conv=>lhs;rw[iB.eq_def]
theorem Ds(nx:List cG)(acc:List Signed):iB [] nx acc=acc:=by rw[iB.eq_def]
def eW(z:aL):aL×Int :=
 if (!bf z)=true then(⟨[],[]⟩,1)else if ((kS (ff z)).2 != 0)=true then(⟨[],[]⟩,(kS (ff z)).2)
 else if decide ((((ff z).aj.length:Int)+((kS (ff z)).1.length:Int))>20000)=true then(⟨[],[]⟩,2)
 else(⟨z.af,iB (ff z).aj (ig (ff z) (kS (ff z)).1) []⟩,0)
def fzC:Nat->List Nat
 |11=>[66666]
 |12=>[55555]
 |15=>[66666]
 |18=>[66666]
 |_=>[]
noncomputable def cxC:Cx:={cx with bld:=[64,106]}
theorem tyC:bD cxC:=bp
theorem Um:cxC.P.follows .mixedOrders=true:=mixed
theorem MM(s:Signed):NQ.Fn cx 227 [.agg (aw s)] (.d (.bool (ll s))) []:=by
 refine aU bp mixed Tryz.func227 ?_;conv=>whnf
 exact al rfl rfl
def stC(ap:Bs)(y:aL)(nx:List cG):St:=⟨[(2,.ptr 2 0),(4,.ptr 4 0),(7,.d (.slice 4 (nx.map cg))),(8,.ptr 8 0)],[(2,.box [.d (.str []),.nil 5]),(4,.box ((aX y).map .d)),(8,.box [.d (.str ap),.own 50]),(50,.row 68 5 [])]⟩
def stL(ap:Bs)(y:aL)(k:Nat)(acc:List Signed)(nx:List cG):St:=⟨[(2,.ptr 2 0),(4,.ptr 4 0),(7,.d (.slice 4 (nx.map cg))),(8,.ptr 8 0),(53,.d (.slice 5 (y.aj.map aw))),(54,.d (.int .i64 ((y.aj.map aw).length:Int))),(55,.d (.int .i64 k))],[(2,.box [.d (.str []),.nil 5]),(4,.box ((aX y).map .d)),(8,.box [.d (.str ap),.own 50]),(50,.row 68 5 (acc.map aw))]⟩
theorem Kp(ap:Bs)(y:aL)(hD:List cG)(hy:y.aj.length<=20000)(hn:hD.length<=20000)(hs:∀s∈y.aj,s.set.data.length<=100000/\s.sigs.length<=100000)(st:St)(hw:aK cxC st (stC ap y hD)) :
 vc cxC Tryz.f187.ntmps fzC (Ee 9 ((Tryz.f187.body).getD .skip)) (fnQ cxC Tryz.f187.results.toList (.tuple [.agg ((aX ⟨ap,iB y.aj hD []⟩).map .d),.d (.int .i64 0)]) []) st:=by
 conv=>whnf
 refine⟨stC ap y hD,hw,?_⟩;conv=>whnf
 refine⟨Nat×List Signed×List cG,λx=>stL ap y x.1 x.2.1 x.2.2,λx=>x.1<=y.aj.length/\x.2.1.length<=2*x.1/\x.2.2.length<=20000/\iB (y.aj.drop x.1) x.2.2 x.2.1=iB y.aj hD [],λx=>y.aj.length-x.1,
  ⟨(0,[],hD),⟨by simp,by simp,hn,rfl⟩,aK.keep ⟨ae,ae,ae,ae,ae,ae,ae,trivial⟩ ⟨ae,ae,ae,ae,trivial⟩⟩,?_⟩
 rintro⟨k,acc,nx⟩ ⟨hk,hl,hA,hc⟩;simp only at hk hl hA hc;conv=>whnf
 refine ak (λh1=>?_) (λh1=>?_) <;> (rw[h1];conv=>whnf)
 .have hh:k<y.aj.length:=by simp at h1;omega
  obtain⟨s,hR⟩:∃s,y.aj[k]? =some s:=⟨_,au hh⟩
  have kj:y.aj.drop k=s::y.aj.drop (k+1):=by
   rw[List.drop_eq_getElem_cons hh,(aB.1 hR).2]
  rw[kj,Bz]at hc;refine⟨aD k,aw s,aN hR,?_⟩;conv=>whnf
  (refine cu ?_;conv=>whnf)
  (refine⟨_,_,MN s (hs s (aC hR)).1 (hs s (aC hR)).2,?_⟩;conv=>whnf)
  repeat' (first
   |(refine⟨by kernel_rfl,?_⟩;conv=>whnf)
   |(refine⟨by(show(acc.map aw).length+1<=_;rw[aA];omega),by(show((acc.map aw).length+1)*80<=_;rw[aA];omega),?_⟩;conv=>whnf)
   |fail)
  have ew:IntKind.i64.wrap ((k:Int)+1)=((k+1:Nat):Int):=by rw[wrap_i64 (by omega) (by omega)];omega
  have kl:((y.aj.map aw).length:Int)=(y.aj.length:Int):=by rw[aA]
  rw[show IntKind.i64.wrap (((k,acc,nx):Nat×List Signed×List cG).fst+1:Int)=_ from ew,kl];have next:∀(hq :List Signed) (hP :List cG),iB (y.aj.drop (k+1)) hP hq =iB y.aj hD []->hq.length<=2*(k+1)->hP.length<=20000-> ∀st',aK cxC st' (stL ap y (k+1) hq hP) ->
   ∃x:Nat×List Signed×List cG,(x.1<=y.aj.length/\x.2.1.length<=2*x.1/\x.2.2.length<=20000/\iB (y.aj.drop x.1) x.2.2 x.2.1=iB y.aj hD [])/\y.aj.length-x.1<y.aj.length-k/\aK cxC st' (stL ap y x.1 x.2.1 x.2.2):=λhq hP e1 e2 e3 st' hw=>⟨(k+1,hq,hP),⟨hh,e2,e3,e1⟩,by(show y.aj.length-(k+1)<_;omega),hw⟩
  have hK:(acc++[s]).length<=2*(k+1):=by rw[List.length_append,List.length_singleton];omega
  have e1:(acc++[s]).map aw=acc.map aw++[aw s]:=by rw[List.map_append];rfl
  cases hnx' :y.aj[k+1]? with
  |none =>
   have kk:y.aj.length<=k+1:=by rwa [List.getElem?_eq_none_iff]at hnx'
   have kh:y.aj.drop (k+1)=[]:=List.drop_eq_nil_of_le kk;have h2:decide (((k+1:Nat):Int)<(y.aj.length:Int))=false:=by rw[decide_eq_false];omega
   rw[h2];rw[if_neg (by rw[kh];simp[uG])]at hc;conv=>whnf
   (refine bV ?_;conv=>whnf)
   rcases nx with _|⟨r,nx⟩
   .rw[if_neg (by simp[mK])]at hc;conv=>whnf
    exact next _ _ hc hK hA _ (aK.keep ⟨ae,ae,ae,ae,ae,ae,⟨ax (by omega),rfl⟩,trivial⟩ ⟨ae,ae,ae,⟨by(show some (Blk.row _ _ (_++_))=some (Blk.row _ _ _);rw[e1];rfl),rfl⟩,trivial⟩)
   .have h3:decide (((((r::nx):List cG).map cg).length:Int)>0)=true:=by rw[decide_eq_true];simp
    rw[show decide (((((k,acc,r::nx):Nat×List Signed×List cG).2.2.map cg).length:Int)>0)=true from h3];conv=>whnf
    refine⟨by decide,cg r,rfl,?_⟩;conv=>whnf
    refine ak (λh4=>?_) (λh4=>?_) <;> (rw[h4];conv=>whnf)
    .rw[if_pos (show mK s (r::nx)=true from h4)]at hc
     (refine cu ?_;conv=>whnf)
     refine⟨by decide,cg r,rfl,?_⟩;conv=>whnf
     repeat' (first
      |(refine⟨by kernel_rfl,?_⟩;conv=>whnf)
      |(refine⟨by(show(acc.map aw++[aw s]).length+1<=_;rw[List.length_append,aA,List.length_singleton];omega),by(show((acc.map aw++[aw s]).length+1)*80<=_;rw[List.length_append,aA,List.length_singleton];omega),?_⟩;conv=>whnf)
      |(refine⟨by decide,by(show((1:Nat):Int)<=(((r::nx).map cg).length:Int);rw[aA,List.length_cons];omega),Int.le_refl _,?_⟩;conv=>whnf)
      |fail)
     have e3:(acc++[s]++[(⟨r,[]⟩:Signed)]).map aw=(acc.map aw++[aw s])++[aw ⟨r,[]⟩]:=by rw[List.map_append,e1];rfl
     have e4:(((r::nx).map cg).drop 1).take (((r::nx).map cg).length-1)=nx.map cg:=List.take_of_length_le (by simp);exact next (acc++[s]++[(⟨r,[]⟩:Signed)]) nx hc (by rw[List.length_append,List.length_append,List.length_singleton,List.length_singleton];omega) (by simp at hA;omega) _ (aK.keep ⟨ae,ae,⟨by(rw[<- e4];rfl),rfl⟩,ae,ae,ae,⟨ax (by omega),rfl⟩,trivial⟩ ⟨ae,ae,ae,⟨by(show some (Blk.row _ _ (_++_))=some (Blk.row _ _ _);rw[e3];rfl),rfl⟩,trivial⟩)
    .rw[if_neg (show ¬mK s (r::nx)=true by rw[show mK s (r::nx)=false from h4];decide)]at hc;exact next _ _ hc hK hA _ (aK.keep ⟨ae,ae,ae,ae,ae,ae,⟨ax (by omega),rfl⟩,trivial⟩ ⟨ae,ae,ae,⟨by(show some (Blk.row _ _ (_++_))=some (Blk.row _ _ _);rw[e1];rfl),rfl⟩,trivial⟩)
  |some x =>
   have hU:k+1<y.aj.length:=(aB.1 hnx').1;have ki:y.aj.drop (k+1)=x::y.aj.drop (k+2):=by
    rw[List.drop_eq_getElem_cons hU,(aB.1 hnx').2]
   have h2:decide (((k+1:Nat):Int)<(y.aj.length:Int))=true:=by rw[decide_eq_true];omega
   have kn:uG s (y.aj.drop (k+1))=(x.set.name==s.set.name):=by rw[ki];rfl
   rw[kn]at hc;rw[h2];conv=>whnf
   rw[show IntKind.i64.wrap (((k,acc,nx):Nat×List Signed×List cG).fst+1:Int)=_ from ew];refine⟨aD _,aw x,aN hnx',?_⟩;conv=>whnf
   refine ak (λh5=>?_) (λh5=>?_) <;> (rw[h5];conv=>whnf)
   .rw[if_pos h5]at hc;exact next _ _ hc hK hA _ (aK.keep ⟨ae,ae,ae,ae,ae,ae,⟨ax (by omega),rfl⟩,trivial⟩ ⟨ae,ae,ae,⟨by(show some (Blk.row _ _ (_++_))=some (Blk.row _ _ _);rw[e1];rfl),rfl⟩,trivial⟩)
   rw[if_neg (by rw[h5];decide)]at hc
   (refine bV ?_;conv=>whnf)
   rcases nx with _|⟨r,nx⟩
   .rw[if_neg (by simp[mK])]at hc;conv=>whnf
    exact next _ _ hc hK hA _ (aK.keep ⟨ae,ae,ae,ae,ae,ae,⟨ax (by omega),rfl⟩,trivial⟩ ⟨ae,ae,ae,⟨by(show some (Blk.row _ _ (_++_))=some (Blk.row _ _ _);rw[e1];rfl),rfl⟩,trivial⟩)
   .have h3:decide (((((r::nx):List cG).map cg).length:Int)>0)=true:=by rw[decide_eq_true];simp
    rw[show decide (((((k,acc,r::nx):Nat×List Signed×List cG).2.2.map cg).length:Int)>0)=true from h3];conv=>whnf
    refine⟨by decide,cg r,rfl,?_⟩;conv=>whnf
    refine ak (λh4=>?_) (λh4=>?_) <;> (rw[h4];conv=>whnf)
    .rw[if_pos (show mK s (r::nx)=true from h4)]at hc
     (refine cu ?_;conv=>whnf)
     refine⟨by decide,cg r,rfl,?_⟩;conv=>whnf
     repeat' (first
      |(refine⟨by kernel_rfl,?_⟩;conv=>whnf)
      |(refine⟨by(show(acc.map aw++[aw s]).length+1<=_;rw[List.length_append,aA,List.length_singleton];omega),by(show((acc.map aw++[aw s]).length+1)*80<=_;rw[List.length_append,aA,List.length_singleton];omega),?_⟩;conv=>whnf)
      |(refine⟨by decide,by(show((1:Nat):Int)<=(((r::nx).map cg).length:Int);rw[aA,List.length_cons];omega),Int.le_refl _,?_⟩;conv=>whnf)
      |fail)
     have e3:(acc++[s]++[(⟨r,[]⟩:Signed)]).map aw=(acc.map aw++[aw s])++[aw ⟨r,[]⟩]:=by rw[List.map_append,e1];rfl
     have e4:(((r::nx).map cg).drop 1).take (((r::nx).map cg).length-1)=nx.map cg:=List.take_of_length_le (by simp);exact next (acc++[s]++[(⟨r,[]⟩:Signed)]) nx hc (by rw[List.length_append,List.length_append,List.length_singleton,List.length_singleton];omega) (by simp at hA;omega) _ (aK.keep ⟨ae,ae,⟨by(rw[<- e4];rfl),rfl⟩,ae,ae,ae,⟨ax (by omega),rfl⟩,trivial⟩ ⟨ae,ae,ae,⟨by(show some (Blk.row _ _ (_++_))=some (Blk.row _ _ _);rw[e3];rfl),rfl⟩,trivial⟩)
    .rw[if_neg (show ¬mK s (r::nx)=true by rw[show mK s (r::nx)=false from h4];decide)]at hc;exact next _ _ hc hK hA _ (aK.keep ⟨ae,ae,ae,ae,ae,ae,⟨ax (by omega),rfl⟩,trivial⟩ ⟨ae,ae,ae,⟨by(show some (Blk.row _ _ (_++_))=some (Blk.row _ _ _);rw[e1];rfl),rfl⟩,trivial⟩)
 .obtain rfl:k=y.aj.length:=by simp at h1;omega
  rw[List.drop_eq_nil_of_le (by omega),Ds]at hc;refine al rfl ?_;rw[<- hc];rfl
theorem EK(z:aL):NQ.Fn cx 187 [.agg (aX z)] (.tuple [.agg ((aX (eW z).1).map .d),.d (.int .i64 (eW z).2)]) []:=by
 show NQ.Fn cxC _ _ _ _
 refine eS fzC tyC Um Tryz.func187 ?_;conv=>whnf
 (refine⟨_,_,jB z,?_⟩;conv=>whnf)
 refine ak (λh1=>?_) (λh1=>?_) <;> (rw[h1];conv=>whnf)
 .refine al rfl ?_;rw[eW,if_pos h1];rfl
 have hv:bf z=true:=by simpa using h1
 have ho:=bO hv;have hz:=ho.few;have hE:eW z=eW z:=rfl;conv at hE=>rhs;rw[eW,if_neg (by rw[h1];decide)]
 have fS:=Rg z.aj ll (by omega) (λs _=>MM s)
 (refine⟨_,_,fS,?_⟩;conv=>whnf)
 have ks:(ff z).aj.length<=z.aj.length:=List.length_filter_le _ _;have fN:=QJ (ff z);obtain⟨ns,e,hJ⟩:∃ns e,kS (ff z)=(ns,e):=⟨_,_,rfl⟩
 rw[hJ]at fN hE
 (refine⟨_,_,fN,?_⟩;conv=>whnf)
 refine ak (λh2=>?_) (λh2=>?_) <;> (rw[h2];conv=>whnf)
 .refine al rfl ?_;rw[hE,if_pos h2];rfl
 have hN:bf (ff z)=true:=by
  cases hN:bf (ff z)with
  |true=>rfl
  |false =>
   exfalso
   rw[kS,if_pos (by rw[hN];rfl)]at hJ;cases hJ;cases h2
 have km:=bO hN;have hX:ns.length<=(ff z).aj.length:=by
  rw[kS,if_neg (by rw[hN];decide)]at hJ;cases hJ;have h:=AE ((ff z).aj.zip (dM (ff z))) [];have h2:(tx (ff z)).length<=(((ff z).aj.zip (dM (ff z)))).length:=by simpa [tx] using h
  rw[List.length_zip]at h2;omega
 have kp:∀s∈(ff z).aj,1<=s.set.type/\ ∃d,s.set.data[0]? =some d:=λs hs=>by
  have hb:=km.set s hs;refine⟨(wG hb).1,?_⟩;unfold dX at hb;simp only[aT,Bool.not_eq_true',Bool.or_eq_false_iff,Bool.not_eq_false']at hb;have:=hb.1.1.2;simp[within]at this;exact⟨_,au (by omega)⟩
 have ew:IntKind.i64.wrap ((((z.aj.filter ll).map aw).length:Int)+((ns.map ck).length:Int))=((ff z).aj.length:Int)+(ns.length:Int):=by
  rw[aA,aA,wrap_i64 (by omega) (by have:(z.aj.filter ll).length=(ff z).aj.length:=rfl;omega)];rfl
 rw[show IntKind.i64.wrap ((((z.aj.filter ll).map aw).length:Int)+(((ns,e).fst.map ck).length:Int))=_ from ew];rw[if_neg (by rw[h2];decide)]at hE;refine ak (λh3=>?_) (λh3=>?_) <;> (rw[h3];conv=>whnf)
 .refine al rfl ?_;rw[hE,if_pos h3];rfl
 rw[if_neg (by rw[h3];decide)]at hE
 (refine⟨_,_,Ih (ff z) ns (by omega) (by omega) kp,?_⟩;conv=>whnf)
 (refine cu ?_;conv=>whnf)
 have kd:=rn hN;have fin:=Kp z.af (ff z) (ig (ff z) ns) (by omega) (by rw[ny];omega) (λs hs=>⟨by have:=kd s hs;omega,by have:=kd s hs;omega⟩);rw[hE];refine⟨?_,?_⟩ <;> (conv=>whnf)
 .rw[show IntKind.i64.wrap ((((z.aj.filter ll).map aw).length:Int)+(((ns,e).fst.map ck).length:Int))=_ from ew];refine⟨by decide,.inr rfl,by omega,by(show _*80<=_;omega),by omega,?_⟩;conv=>whnf
  repeat' (first
   |exact fin _ (aK.keep ⟨ae,ae,ae,ae,trivial⟩ ⟨ae,ae,ae,ae,trivial⟩)
   |(refine⟨by kernel_rfl,?_⟩;conv=>whnf)
   |fail)
 .repeat' (first
   |exact fin _ (aK.keep ⟨ae,ae,ae,ae,trivial⟩ ⟨ae,ae,ae,ae,trivial⟩)
   |(refine⟨by kernel_rfl,?_⟩;conv=>whnf)
   | (rw [show IntKind.i64.wrap ((((z.aj.filter ll).map aw).length : Int) + (((ns, e).fst.map ck).length : Int)) = _ from ew]
      refine⟨by decide,.inr rfl,by omega,by(show _*80<=_;omega),by omega,?_⟩;conv=>whnf)
   |fail)
end Go.Proofs.YtodofogcincleaaGreatDoor
