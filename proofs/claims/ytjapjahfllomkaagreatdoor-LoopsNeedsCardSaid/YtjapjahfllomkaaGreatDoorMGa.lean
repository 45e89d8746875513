/-
  Texts of the proof, merged in build order.
-/
import Derived.Test.YtjapjahfllomkaaGreatDoorAbM
import Derived.Test.YtjapjahfllomkaaGreatDoorMQrc
import Derived.Test.YtjapjahfllomkaaGreatDoorMLrc
import Derived.Test.YtjapjahfllomkaaGreatDoorMCa
set_option linter.all false
set_option maxRecDepth 100000
namespace NP
open NQ Go
structure pn where
 name:Bs
 addr:Int
 owner:Int
 deriving DecidableEq
structure ag where
 host:Int
 zone:aQ
 deriving DecidableEq
structure bJ where
 hosts:List pn
 zones:List ag
 anchor:fZ
 hints:List Int
def kC(h:pn):List D:=[.str h.name, .int .i64 h.addr, .int .i64 h.owner]
def b7(p:ag):List D:=[.int .i64 p.host, .str p.zone.apex, .slice 5 (p.zone.sets.map aw)]
def cv(w:bJ):List D:=[.slice 3 (w.hosts.map kC), .slice 3 (w.zones.map b7), .str w.anchor.name, .int .i64 w.anchor.type, .int .i64 w.anchor.life, .slice 3 (w.anchor.data.map cz), .slice 1 (w.hints.map fun n=>[.int .i64 n])]
def dt(f:ag->Bool):Nat->List ag->List (List D)
 | _,[]=>[]
 | i,p::t=>if f p=true then[.int .i64 i, .agg (b7 p)]::dt f (i+1) t else dt f (i+1) t
theorem oU(f:ag->Bool):∀(i:Nat) (a b:List ag),dt f i (a++b)=dt f i a++dt f (i+a.length) b
 | i,[],b=>by simp[dt]
 | i,p::t,b=>by
  simp only[List.cons_append,dt];rw[oU f (i+1) t b];have:i+1+t.length=i+(p::t).length:=by simp;omega
  rw[this];split <;> rfl
theorem rr{f:ag->Bool}{l:List ag}{k:Nat}{p:ag}(h:l[k]? =some p):dt f 0 (l.take (k+1))=dt f 0 (l.take k)++(if f p=true then[[.int .i64 k, .agg (b7 p)]]else[]):=by
 have hk:=(ar.1 h).1;rw[List.take_add_one,h,oU];have:(l.take k).length=k:=by simp;omega
 rw[this];simp[dt]
theorem KH{f:ag->Bool}{l:List ag}{k:Nat}{p:ag}(h:l[k]? =some p)(hf:f p=true):(dt f 0 l)[(dt f 0 (l.take k)).length]? =some [.int .i64 k, .agg (b7 p)]:=by
 have e:l=l.take (k+1)++l.drop (k+1):=(List.take_append_drop ..).symm;have h2:=oU f 0 (l.take (k+1)) (l.drop (k+1));rw[<- e]at h2;rw[h2,rr h,if_pos hf];simp
end NP
namespace Go.Proofs.YtjapjahfllomkaaGreatDoor
open NQ Go NP Go.RowKit
theorem Bo(w:bJ)(okf:FuncId)(x:D)(f:ag->Bool)(hf:∀p∈w.zones,NQ.Fn cx okf [.agg (b7 p),x] (.d (.bool (f p))) [])(hc:cx.chg okf=0)(hn:w.zones.length<=100000) :
 GX cx 171 [.ptr (cv w), .ptr [.fn okf [] [x]]] (dt f 0 w.zones):=by
 refine vi (fun | 3=>[77777] | _=>[]) bf mixed Tryz.func171 (by kernel_rfl) rfl rfl (ah rfl) ?_
 conv=>whnf
 refine⟨rfl,?_⟩
 conv=>whnf
 refine⟨Nat,fun k=>(((dt f 0 (w.zones.take k)).length,true),⟨[(1, .d (.ptr (cv w))),(2, .d (.ptr [.fn okf [] [x]])),(7, .d (.slice 3 (w.zones.map b7))),(8, .d (.int .i64 ((w.zones.map b7).length:Int))),(9, .d (.int .i64 k))],[]⟩),
  fun k=>k<=w.zones.length,fun k=>w.zones.length-k,⟨0,Nat.zero_le _,by simp[dt],an.keep ⟨⟨rfl,rfl⟩,⟨rfl,rfl⟩,⟨rfl,rfl⟩,⟨rfl,rfl⟩,⟨rfl,rfl⟩,trivial⟩ trivial⟩,fun k hk=>?_⟩
 conv=>whnf
 refine⟨rfl,?_⟩
 conv=>whnf
 refine ae (fun h1=>?_) (fun h1=>?_) <;> (rw[h1];conv=>whnf)
 . obtain⟨p,hp⟩:∃p,w.zones[k]? =some p:=⟨_,ai (by simpa using h1)⟩
   have hkl:=(ar.1 hp).1;refine⟨rfl,?_⟩
   conv=>whnf
   refine⟨aH k,b7 p,aU hp,?_⟩
   conv=>whnf
   refine⟨rfl,?_⟩
   conv=>whnf
   refine⟨rfl,?_⟩
   conv=>whnf
   refine⟨rfl,?_⟩
   conv=>whnf
   try (rw[hc];conv=>whnf)
   (refine⟨_,_,hf p (aq hp),?_⟩;conv=>whnf)
   repeat' (first | (refine⟨rfl,?_⟩;conv=>whnf) | (refine ae (fun h=>?_) (fun h=>?_) <;> (rw[h];conv=>whnf)))
   . refine⟨_,_,⟨KH hp h,rfl⟩,rfl,fun b=>?_⟩
     conv=>whnf
     cases b with
     | true =>
      repeat' (first | (refine⟨rfl,?_⟩;conv=>whnf) | fail)
      refine⟨k+1,by show k+1<=_;omega,by show w.zones.length-(k+1)<w.zones.length-k;omega,?_,an.keep ⟨⟨rfl,rfl⟩,⟨rfl,rfl⟩,⟨rfl,rfl⟩,⟨rfl,rfl⟩,⟨au (by omega),rfl⟩,trivial⟩ trivial⟩;show((dt f 0 (List.take (k+1) w.zones)).length,true)=((dt f 0 (List.take k w.zones)).length+1,true)
      rw[rr hp,if_pos h];simp
     | false =>
      repeat' (first | (refine⟨rfl,?_⟩;conv=>whnf) | fail)
      exact⟨trivial,fun h=>by cases h⟩
   . refine⟨k+1,by show k+1<=_;omega,by show w.zones.length-(k+1)<w.zones.length-k;omega,?_,an.keep ⟨⟨rfl,rfl⟩,⟨rfl,rfl⟩,⟨rfl,rfl⟩,⟨rfl,rfl⟩,⟨au (by omega),rfl⟩,trivial⟩ trivial⟩;show((dt f 0 (List.take (k+1) w.zones)).length,true)=((dt f 0 (List.take k w.zones)).length,true)
     rw[rr hp,if_neg (by rw[h];simp)];simp
 . refine⟨trivial,fun _=>?_⟩;obtain rfl:k=w.zones.length:=by simp at h1;omega
   simp
theorem Hr(w:bJ)(okf:FuncId)(caps:List D):NQ.Fn cx 93 [.agg (cv w), .fn okf [] caps] (.d (.fn 171 [] [.ptr (cv w), .ptr [.fn okf [] caps]])) []:=by
 refine cR (fun | 1=>[2,3] | _=>[]) bf mixed Tryz.func93 (by kernel_rfl) rfl (ah rfl) ?_
 conv=>whnf
 exact af rfl rfl
theorem JC(s a:Bs):NQ.Fn cx 95 [.str s, .str a] (.d (.bool (bx s a).1)) []:=by
 refine aO bf mixed Tryz.func95 (by kernel_rfl) rfl (ah rfl) ?_;conv=>whnf
 (refine⟨_,_,oO s a,?_⟩;conv=>whnf)
 exact af rfl rfl
theorem Im(s:Bs)(p:ag):NQ.Fn cx 94 [.agg (b7 p), .ptr [.str s]] (.d (.bool (bx s p.zone.apex).1)) []:=by
 refine aO bf mixed Tryz.func94 (by kernel_rfl) rfl (ah rfl) ?_;conv=>whnf
 (refine⟨_,_,JC s p.zone.apex,?_⟩;conv=>whnf)
 exact af rfl rfl
end Go.Proofs.YtjapjahfllomkaaGreatDoor
namespace NP
open NQ Go
def fk(s:Bs):Int:=((dy s).1.length:Int)
end NP
namespace Go.Proofs.YtjapjahfllomkaaGreatDoor
open NQ Go NP Go.RowKit
theorem JB(s:Bs):NQ.Fn cx 96 [.str s] (.d (.int .i64 (fk s))) []:=by
 refine aO bf mixed Tryz.func96 (by kernel_rfl) rfl (ah rfl) ?_;conv=>whnf
 (refine⟨_,_,su s,?_⟩;conv=>whnf)
 refine af rfl ?_;show AV.d (.int .i64 (((dy s).1.map aA).length:Int))=_
 rw[ao];rfl
end Go.Proofs.YtjapjahfllomkaaGreatDoor
namespace NP
open NQ Go
def fT(s:Bs):List ag->Bs×Int->Bs×Int
 | [],b=>b
 | p::t,b=>fT s t (if (bx s p.zone.apex).1=true/\b.2<fk p.zone.apex then(p.zone.apex,fk p.zone.apex)else b)
def iW(valid:Bool)(w:bJ)(s:Bs):Bs×Int :=
 if (valid&&aj s)=false then([],1)else if (fT s w.zones ([], -1)).2<0 then([],4)else((fT s w.zones ([], -1)).1,0)
theorem rp(f:ag->Bool):∀(i:Nat) (l:List ag) (k:Nat) (x:List D),(dt f i l)[k]? =some x-> ∃j p,x=[.int .i64 (j:Nat), .agg (b7 p)]/\(l.filter f)[k]? =some p
 | i,[],k,x,h=>by simp[dt]at h
 | i,p::t,k,x,h=>by
  unfold dt at h;by_cases hp:f p=true
  . rw[if_pos hp]at h;rw[List.filter_cons_of_pos hp];cases k with
    | zero=>cases h;exact⟨i,p,rfl,rfl⟩
    | succ k=>exact rp f (i+1) t k x (by simpa using h)
  . rw[if_neg hp]at h;rw[List.filter_cons_of_neg hp];exact rp f (i+1) t k x h
theorem Ij(f:ag->Bool)(i:Nat)(l:List ag)(x:List D)(h:x∈dt f i l):x.length=2:=by
 obtain⟨k,hk⟩:=b5 h;obtain⟨j,p,rfl,_⟩:=rp f i l k x hk;rfl
theorem rq(f:ag->Bool):∀(i:Nat) (l:List ag),(dt f i l).length=(l.filter f).length
 | i,[]=>rfl
 | i,p::t=>by
  unfold dt;by_cases hp:f p=true
  . rw[if_pos hp,List.filter_cons_of_pos hp,List.length_cons,List.length_cons,rq f (i+1) t]
  . rw[if_neg hp,List.filter_cons_of_neg hp,rq f (i+1) t]
def hAt(s:Bs)(w:bJ)(k:Nat):Bs×Int:=fT s ((w.zones.filter fun p=>(bx s p.zone.apex).1).take k) ([], -1)
theorem BU(s:Bs):∀(a:List ag) (p:ag) (b:Bs×Int),fT s (a++[p]) b=fT s [p] (fT s a b)
 | [],p,b=>rfl
 | x::a,p,b=>BU s a p _
theorem BS{s:Bs}{w:bJ}{k:Nat}{p:ag}(h:(w.zones.filter fun p=>(bx s p.zone.apex).1)[k]? =some p):hAt s w (k+1)=if (hAt s w k).2<fk p.zone.apex then(p.zone.apex,fk p.zone.apex)else hAt s w k:=by
 have hu:(bx s p.zone.apex).1=true:=(List.mem_filter.1 (aq h)).2;unfold hAt;rw[List.take_add_one,h];show fT s (_++[p]) _=_
 rw[BU];simp only[fT,hu,true_and]
theorem qe(s:Bs):∀(l:List ag) (b:Bs×Int),fT s (l.filter fun p=>(bx s p.zone.apex).1) b=fT s l b
 | [],b=>rfl
 | p::t,b=>by
  by_cases hp:(bx s p.zone.apex).1=true
  . rw[List.filter_cons_of_pos (p:=fun p:ag=>(bx s p.zone.apex).1) hp];exact qe s t _
  . rw[List.filter_cons_of_neg (p:=fun p:ag=>(bx s p.zone.apex).1) hp,qe s t b];show _=fT s t (if _ then _ else b)
    rw[if_neg (fun h=>hp h.1)]
theorem ED(s:Bs)(w:bJ):hAt s w (dt (fun p=>(bx s p.zone.apex).1) 0 w.zones).length=fT s w.zones ([], -1):=by
 rw[rq];unfold hAt;rw[List.take_length,qe]
theorem CR(x y:Blk):∀q∈[100006,100007],live [(100006,x),(100007,y)] q:=fun q hq=>by
 rcases List.mem_cons.1 hq with rfl | hq
 . exact aN.2 ⟨x,aX ..⟩
 . rcases List.mem_cons.1 hq with rfl | hq
   . exact aN.2 ⟨y,by rw[ba _ _ (by omega),aX]⟩
   . cases hq
end NP
namespace Go.Proofs.YtjapjahfllomkaaGreatDoor
open NQ Go NP Go.RowKit
theorem MQ(w:bJ)(s:Bs)(v:Bool)(hv:NQ.Fn cx 43 [.agg (cv w)] (.d (.bool v)) [])(hn:w.zones.length<=100000):NQ.Fn cx 39 [.agg (cv w), .str s] (.tuple [.d (.str (iW v w s).1), .d (.int .i64 (iW v w s).2)]) []:=by
 refine pC (fun | 4=>[3] | _=>[]) bf mixed Tryz.func39 (by kernel_rfl) rfl (ah rfl) ?_
 conv=>whnf
 repeat' (first | (refine⟨_,_,hv,?_⟩;conv=>whnf) | (refine⟨_,_,iQ s,?_⟩;conv=>whnf) | (refine ae (fun h=>?_) (fun h=>?_) <;> (rw[h];conv=>whnf)) | fail)
 . have e:iW v w s=([],1):=by unfold iW;simp_all
   rw[e];exact af rfl rfl
 . have e:iW v w s=([],1):=by unfold iW;simp_all
   rw[e];exact af rfl rfl
 (refine⟨_,_,Hr w _ _,?_⟩;conv=>whnf)
 refine⟨171,_,uB _,[(6, .ptr 100006 0),(7, .ptr 100007 0),(21, .d (.fn 171 [] [.ptr (cv w), .ptr [.fn 94 [] [.ptr [.str s]]]]))],
  Unit,(),fun(k:Nat) _=>[(100006, .box [.d (.str (hAt s w k).1)]),(100007, .box [.d (.int .i64 (hAt s w k).2)])],[100006,100007],fun _ _=>True,(gZ.ren [6,7] (by kernel_rfl)).trans (an.zero (an.keep ⟨⟨(by kernel_rfl),(by kernel_rfl)⟩,⟨(by kernel_rfl),(by kernel_rfl)⟩,⟨(by kernel_rfl),(by kernel_rfl)⟩,trivial⟩ ⟨⟨(by kernel_rfl),(by kernel_rfl)⟩,⟨(by kernel_rfl),(by kernel_rfl)⟩,trivial⟩)),
  ⟨rfl,Bo w 94 (.ptr [.str s]) (fun p=>(bx s p.zone.apex).1) (fun p _=>Im s p) rfl hn,?_,rfl,rfl⟩,⟨ah rfl,?_,rfl,by kernel_rfl⟩,trivial,?_,fun k _ hkf _=>?_⟩
 . intro k x k' hx;exact Ij _ _ _ x (aq hx.1)
 . intro q hq;rcases List.mem_cons.1 hq with rfl | hq
   . exact⟨by omega,_,rfl,rfl⟩
   . rcases List.mem_cons.1 hq with rfl | hq
     . exact⟨by omega,_,rfl,rfl⟩
     . cases hq
 . rintro k x k' _ ⟨hx,rfl⟩ _;obtain⟨i,p,rfl,hp⟩:=rp _ _ _ k x hx
   conv=>whnf
   (refine⟨_,_,JB p.zone.apex,?_⟩;conv=>whnf)
   refine ae (fun h3=>?_) (fun h3=>?_) <;> (rw[h3];conv=>whnf)
   . have e:hAt s w (k+1)=(p.zone.apex,fk p.zone.apex):=by rw[BS hp,if_pos (by simpa using h3)]
     refine⟨(),⟨?_,fun q hq=>?_⟩,trivial⟩
     . show an cx _ ⟨[],[(100006, .box [.d (.str (hAt s w (k+1)).1)]),(100007, .box [.d (.int .i64 (hAt s w (k+1)).2)])]⟩
       rw[e];exact an.keep trivial ⟨⟨(by kernel_rfl),(by kernel_rfl)⟩,⟨(by kernel_rfl),(by kernel_rfl)⟩,trivial⟩
     . exact CR _ _ q hq
   . have e:hAt s w (k+1)=hAt s w k:=by rw[BS hp,if_neg (by simpa using h3)]
     refine⟨(),⟨?_,fun q hq=>?_⟩,trivial⟩
     . show an cx _ ⟨[],[(100006, .box [.d (.str (hAt s w (k+1)).1)]),(100007, .box [.d (.int .i64 (hAt s w (k+1)).2)])]⟩
       rw[e];exact an.keep trivial ⟨⟨(by kernel_rfl),(by kernel_rfl)⟩,⟨(by kernel_rfl),(by kernel_rfl)⟩,trivial⟩
     . exact CR _ _ q hq
 . obtain rfl:k=_:=hkf
   conv=>whnf
   rw[ED]
   (refine ae (fun h=>?_) (fun h=>?_) <;> (rw[h];conv=>whnf))
   . have e:iW v w s=([],4):=by unfold iW;simp_all
     rw[e];exact af rfl rfl
   . have e:iW v w s=((fT s w.zones ([], -1)).1,0):=by unfold iW;simp_all
     rw[e];refine af rfl ?_;rw[ED];rfl
end Go.Proofs.YtjapjahfllomkaaGreatDoor
namespace NP
open NQ Go
def fE(n:Int):Bool:=decide (n>=1)&&decide (n<=1000000)
def sf(s:Bs):Bool:=(dy s).1.head? ==some [42]
theorem L3{s:Bs}(h:aj s=true):sf s=fb s:=by
 rw[Ae h];unfold sf dy;rw[if_pos h]
def yj(l:List Int):List (List D×D):=l.map fun a=>([.tuple [.int .i64 a]], .bool true)
theorem sC(a:Int):∀l:List Int,iv (.int .i64 a) (yj l)=some (if l.contains a=true then some (.bool true)else none)
 | []=>rfl
 | x::l=>by
  show(match gu (.int .i64 a) [.tuple [.int .i64 x]]with | some true=>_ | some false=>iv (.int .i64 a) (yj l) | none=>none)=_
  have:gu (.int .i64 a) [.tuple [.int .i64 x]]=some (a==x):=by simp[gu]
  rw[this];cases h:(a==x)with
  | true => have e : a = x := by simpa using h
            subst e;simp
  | false=>simp only[List.contains_cons,h,az];exact sC a l
theorem JP{a:Int}{l:List Int}(h:l.contains a=false):uM (.int .i64 a) (.bool true) (yj l)=some (yj (l++[a])):=by
 rw[Gz (by rw[sC,h];rfl)];simp[yj]
def jH:List Int->List pn->Bool
 | _,[]=>true
 | seen,h::t=> !(!aj h.name||sf h.name||decide (h.owner<0)||decide (h.owner>=32))&& !(!fE h.addr||seen.contains h.addr)&&jH (seen++[h.addr]) t
def kZ(l:List pn):Bool:=decide ((l.length:Int)<=64)&&jH [] l
theorem xt{l:List pn}{k:Nat}{h:pn}(hh:l[k]? =some h)(seen:List Int):jH seen (l.drop k)=(!(!aj h.name||sf h.name||decide (h.owner<0)||decide (h.owner>=32))&& !(!fE h.addr||seen.contains h.addr)&&jH (seen++[h.addr]) (l.drop (k+1))):=by
 rw[drop_cons hh];rfl
def ni(s:fZ)(hints:List Int):Bool:=dZ s&&(s.type==6)&&(s.name==[46])&&decide ((hints.length:Int)>=1)&&decide ((hints.length:Int)<=8)&&hints.all fE
end NP
namespace Go.Proofs.YtjapjahfllomkaaGreatDoor
open NQ Go NP Go.RowKit
theorem CZ(n:Int):NQ.Fn cx 174 [.int .i64 n] (.d (.bool (fE n))) []:=by
 refine aO bf mixed Tryz.func174 (by kernel_rfl) rfl (ah rfl) ?_;conv=>whnf
 repeat' (first | (refine ae (fun h=>?_) (fun h=>?_) <;> (rw[h];conv=>whnf)) | fail)
 all_goals (refine af rfl ?_;show AV.d (D.bool _)=AV.d (D.bool _);congr 2;unfold fE;simp only[*, if_true,if_false,ay,aJ,aI,aK,aM,aL,az,aC,aD,aE,aF,aB])
theorem LZ(n:Int):NQ.Fn cx 176 [.int .i64 n] (.d (.bool (!fE n))) []:=by
 refine aO bf mixed Tryz.func176 (by kernel_rfl) rfl (ah rfl) ?_;conv=>whnf
 (refine⟨_,_,CZ n,?_⟩;conv=>whnf)
 exact af rfl rfl
theorem L0(s:Bs):NQ.Fn cx 173 [.str s] (.d (.bool (sf s))) []:=by
 refine aO bf mixed Tryz.func173 (by kernel_rfl) rfl (ah rfl) ?_;conv=>whnf
 (refine⟨_,_,su s,?_⟩;conv=>whnf)
 (refine ae (fun h=>?_) (fun h=>?_) <;> (rw[h];conv=>whnf))
 . cases hl:(dy s).1 with
   | nil=>rw[hl]at h;simp at h
   | cons x t =>
    refine⟨by decide,aA x,rfl,?_⟩
    conv=>whnf
    refine af rfl ?_;show AV.d (D.bool _)=AV.d (D.bool _)
    congr 2
    unfold sf;rw[hl];simp
 . refine af rfl ?_;show AV.d (D.bool _)=AV.d (D.bool _)
   congr 2
   unfold sf;cases hl:(dy s).1 with
   | nil=>rfl
   | cons x t=>rw[hl]at h;simp at h
theorem Iq(l:List Int)(p:Int->Bool)(hn:l.length<=100000)(hf:∀s∈l,NQ.Fn cx 176 [.int .i64 s] (.d (.bool (p s))) []) :
 NQ.Fn cx 106 [.slice 1 (l.map dq), .fn 176 [] []] (.d (.int .i64 (match l.findIdx? p with | some k=>(k:Int) | none=> -1))) []:=by
 refine aO bf mixed Tryz.func106 (by kernel_rfl) rfl (ah rfl) ?_;conv=>whnf
 refine⟨Nat,fun k=>⟨[(0, .d (.slice 1 (l.map dq))),(1, .d (.fn 176 [] [])),(6, .d (.slice 1 (l.map dq))),(7, .d (.int .i64 ((l.map dq).length:Int))),(8, .d (.int .i64 k))],[]⟩,fun k=>k<=l.length/\ ∀j y,j<k->l[j]? =some y->p y=false,fun k=>l.length-k,
  ⟨0,⟨by omega,fun j y h=>by omega⟩,an.keep ⟨⟨rfl,rfl⟩,⟨rfl,rfl⟩,⟨rfl,rfl⟩,⟨rfl,rfl⟩,⟨rfl,rfl⟩,trivial⟩ trivial⟩,fun k hk=>?_⟩
 obtain⟨hk,hall⟩:=hk
 conv=>whnf
 refine ae (fun h1=>?_) (fun h1=>?_) <;> (rw[h1];conv=>whnf)
 . have hlt:k<l.length:=by simp at h1;omega
   obtain⟨s,hs⟩:∃s,l[k]? =some s:=⟨_,ai hlt⟩
   refine⟨aH k,dq s,aU hs,?_⟩
   conv=>whnf
   (refine⟨_,_,hf s (aq hs),?_⟩;conv=>whnf)
   refine ae (fun h2=>?_) (fun h2=>?_) <;> (rw[h2];conv=>whnf)
   . refine af rfl ?_;have:l.findIdx? p=some k:=by
      rw[List.findIdx?_eq_some_iff_getElem];obtain⟨g1,g2⟩:=ar.1 hs;refine⟨g1,by rw[g2];exact h2,fun j hj=>?_⟩;have:=hall j (l[j]) hj (ai (by omega));rw[this];decide
     rw[this];rfl
   . refine⟨k+1,⟨hlt,fun j y hj hy=>?_⟩,by(show l.length-(k+1)<l.length-k;omega),an.keep ⟨⟨rfl,rfl⟩,⟨rfl,rfl⟩,⟨rfl,rfl⟩,⟨rfl,rfl⟩,⟨au (by omega),rfl⟩,trivial⟩ trivial⟩;rcases Nat.lt_succ_iff_lt_or_eq.1 hj with hj | rfl
     . exact hall j y hj hy
     . rw[hs]at hy;cases hy;exact h2
 . obtain rfl:k=l.length:=by simp at h1;omega
   refine af rfl ?_;have:l.findIdx? p=none:=by
    rw[List.findIdx?_eq_none_iff];intro x hx;obtain⟨i,hi⟩:=b5 hx;exact hall i x (ar.1 hi).1 hi
   rw[this];rfl
theorem C0(l:List Int)(hl:l.length<=100000):NQ.Fn cx 50 [.slice 1 (l.map dq), .fn 176 [] []] (.d (.bool (!l.all fE))) []:=by
 refine aO bf mixed Tryz.func50 (by kernel_rfl) rfl (ah rfl) ?_;conv=>whnf
 (refine⟨_,_,Iq l (fun n=> !fE n) hl (fun s _=>LZ s),?_⟩;conv=>whnf)
 refine af rfl ?_;show AV.d (D.bool (decide ((match l.findIdx? (fun n=> !fE n)with | some k=>(k:Int) | none=> -1)>=0)))=_
 congr 2
 cases h:l.findIdx? (fun n=> !fE n)with
 | some k =>
  obtain⟨h1,h2,_⟩:=List.findIdx?_eq_some_iff_getElem.1 h;rw[decide_eq_true (aH k)];have:l.all fE=false:=by
   rw[<- Bool.not_eq_true,ax];intro hall;rw[hall _ (List.getElem_mem h1)]at h2;cases h2
  rw[this];rfl
 | none =>
  have:l.all fE=true:=by
   rw[ax];intro x hx;have:=List.findIdx?_eq_none_iff.1 h x hx;simpa using this
  rw[this];rfl
theorem CT(s:fZ)(hints:List Int)(hl:hints.length<=100000):NQ.Fn cx 100 [.agg (jQ s), .slice 1 (hints.map dq)] (.d (.bool (ni s hints))) []:=by
 refine aO bf mixed Tryz.func100 (by kernel_rfl) rfl (ah rfl) ?_;conv=>whnf
 (refine⟨_,_,vz s,?_⟩;conv=>whnf)
 repeat' (first | (refine ae (fun h=>?_) (fun h=>?_) <;> (rw[h];conv=>whnf)) | fail)
 all_goals first
  | (refine af rfl ?_;show AV.d (D.bool false)=_;(try simp only[ao]at *);unfold ni;simp_all;done)
  | skip
 all_goals first
  | ((refine ⟨_, _, C0 hints hl, ?_⟩; conv => whnf)
     refine af rfl ?_;show AV.d (D.bool _)=AV.d (D.bool _)
     congr 2
     (try simp only[ao]at *)
     unfold ni
     simp_all;done)
  | (refine af rfl ?_;show AV.d (D.bool false)=_;(try simp only[ao]at *);unfold ni;simp_all;omega)
theorem AB(l:List pn)(hl:l.length<=100000):NQ.Fn cx 98 [.slice 3 (l.map kC)] (.d (.bool (kZ l))) []:=by
 refine aO bf mixed Tryz.func98 (by kernel_rfl) rfl (ah rfl) ?_;conv=>whnf
 rw[ao];refine ae (fun h=>?_) (fun h=>?_) <;> (rw[h];conv=>whnf)
 . refine af rfl ?_;show AV.d (D.bool _)=AV.d (D.bool _)
   congr 2
   unfold kZ;simp at h;simp;omega
 have hle:kZ l=jH [] l:=by unfold kZ;simp at h;simp;omega
 rw[hle];refine⟨Nat,fun k=>⟨[(10, .d (.slice 3 (l.map kC))),(11, .d (.int .i64 ((l.map kC).length:Int))),(12, .d (.int .i64 k)),(3, .omap 9)],[(9, .kmap (yj ((l.take k).map (·.addr))))]⟩,fun k=>k<=l.length/\jH ((l.take k).map (·.addr)) (l.drop k)=jH [] l,fun k=>l.length-k,
  ⟨0,⟨Nat.zero_le _,rfl⟩,an.keep ⟨⟨rfl,rfl⟩,⟨rfl,rfl⟩,⟨rfl,rfl⟩,⟨rfl,rfl⟩,trivial⟩ ⟨⟨rfl,rfl⟩,trivial⟩⟩,fun k ⟨hk,hinv⟩=>?_⟩
 conv=>whnf
 refine ae (fun h1=>?_) (fun h1=>?_) <;> (rw[h1];conv=>whnf)
 . have hlt:k<l.length:=by simpa using h1
   obtain⟨x,hx⟩:∃x,l[k]? =some x:=⟨_,ai hlt⟩
   rw[xt hx]at hinv;refine⟨aH k,kC x,aU hx,?_⟩
   conv=>whnf
   repeat' (first | (refine⟨_,_,iQ x.name,?_⟩;conv=>whnf) | (refine⟨_,_,L0 x.name,?_⟩;conv=>whnf) | (refine⟨_,_,CZ x.addr,?_⟩;conv=>whnf) | (refine ae (fun h=>?_) (fun h=>?_) <;> (rw[h];conv=>whnf)) | (refine⟨_,sC x.addr _,?_⟩;cases hc:((l.take k).map (·.addr)).contains x.addr <;> (conv=>whnf)) | fail)
   all_goals first
    | (refine af rfl ?_;show AV.d (D.bool false)=AV.d (D.bool _);rw[<- hinv];simp_all;done)
    | (refine ⟨_, JP hc, ?_⟩
       conv=>whnf
       refine⟨k+1,⟨hlt,?_⟩,by(show l.length-(k+1)<l.length-k;omega),an.keep ⟨⟨rfl,rfl⟩,⟨rfl,rfl⟩,⟨au (by omega),rfl⟩,⟨rfl,rfl⟩,trivial⟩ ⟨⟨?_,rfl⟩,trivial⟩⟩
       . rw[bt hx,List.map_append];rw[<- hinv];simp_all
       . rw[bt hx,List.map_append];rfl)
 . obtain rfl:k=l.length:=by simp at h1;omega
   refine af rfl ?_;rw[<- hinv,List.drop_length];rfl
end Go.Proofs.YtjapjahfllomkaaGreatDoor
namespace NP
open NQ Go
def pmap(l:List ag):List (List D×D):=l.map fun p=>([.int .i64 p.host, .str p.zone.apex], .bool true)
def gK(p x:ag):Bool:=(p.host==x.host)&&(p.zone.apex==x.zone.apex)
theorem tJ(p:ag):∀l:List ag,ma [.int .i64, .str] [.int .i64 p.host, .str p.zone.apex] (pmap l)=some (if l.any (gK p)=true then some (.bool true)else none)
 | []=>rfl
 | x::l=>by
  show(match cW [.int .i64, .str] [.d (.int .i64 p.host), .d (.str p.zone.apex)] [.d (.int .i64 x.host), .d (.str x.zone.apex)]with | some true=>_ | some false=>ma _ _ (pmap l) | none=>none)=_
  have:cW [.int .i64, .str] [.d (.int .i64 p.host), .d (.str p.zone.apex)] [.d (.int .i64 x.host), .d (.str x.zone.apex)]=some (gK p x):=by
   show some ((p.host==x.host)&&((p.zone.apex==x.zone.apex)&&true))=_
   rw[aD];rfl
  rw[this,List.any_cons];cases h:gK p x with
  | true=>simp
  | false=>simp only[az];exact tJ p l
theorem Le{p:ag}{l:List ag}(h:l.any (gK p)=false):uy [.int .i64, .str] [.int .i64 p.host, .str p.zone.apex] (.bool true) (pmap l)=some (pmap (l++[p])):=by
 rw[xx (by rw[tJ,h];rfl)];simp[pmap]
def apx(l:List ag):List (Bs×D):=l.foldl (fun m p=>cH p.zone.apex (.bool true) m) []
theorem JS(l:List ag)(p:ag):apx (l++[p])=cH p.zone.apex (.bool true) (apx l):=by unfold apx;rw[List.foldl_append];rfl
def fq(n:Nat):List ag->List ag->Bool
 | _,[]=>true
 | seen,p::t=> !(decide (p.host<0)||decide (p.host>=(n:Int))||seen.any (gK p)|| !bE p.zone)&&fq n (seen++[p]) t
def lG(w:bJ):Bool:=decide ((w.zones.length:Int)<=4000)&&fq w.hosts.length [] w.zones&&decide (((apx w.zones).length:Int)<=500)
theorem u3{n:Nat}{l:List ag}{k:Nat}{p:ag}(hp:l[k]? =some p)(seen:List ag):fq n seen (l.drop k)=(!(decide (p.host<0)||decide (p.host>=(n:Int))||seen.any (gK p)|| !bE p.zone)&&fq n (seen++[p]) (l.drop (k+1))):=by
 rw[drop_cons hp];rfl
def cF(w:bJ):Bool:=kZ w.hosts&&lG w&&ni w.anchor w.hints
end NP
namespace Go.Proofs.YtjapjahfllomkaaGreatDoor
open NQ Go NP Go.RowKit
theorem y1(w:bJ)(hl:w.zones.length<=100000):NQ.Fn cx 99 [.agg (cv w)] (.d (.bool (lG w))) []:=by
 refine aO bf mixed Tryz.func99 (by kernel_rfl) rfl (ah rfl) ?_;conv=>whnf
 rw[ao];refine ae (fun h=>?_) (fun h=>?_) <;> (rw[h];conv=>whnf)
 . refine af rfl ?_;show AV.d (D.bool _)=AV.d (D.bool _)
   congr 2
   unfold lG;simp at h;simp;omega
 have hle:lG w=(fq w.hosts.length [] w.zones&&decide (((apx w.zones).length:Int)<=500)):=by
  have:decide ((w.zones.length:Int)<=4000)=true:=by simp at h ⊢;omega
  unfold lG;rw[this,aE]
 rw[hle];refine⟨Nat,fun k=>⟨[(1, .ptr 1 0),(15, .d (.slice 3 (w.zones.map b7))),(16, .d (.int .i64 ((w.zones.map b7).length:Int))),(17, .d (.int .i64 k)),(3, .omap 12),(4, .omap 13)],[(1, .box ((cv w).map .d)),(12, .kmap (pmap (w.zones.take k))),(13, .smap (apx (w.zones.take k)))]⟩,fun k=>k<=w.zones.length/\fq w.hosts.length (w.zones.take k) (w.zones.drop k)=fq w.hosts.length [] w.zones,fun k=>w.zones.length-k,
  ⟨0,⟨Nat.zero_le _,rfl⟩,an.keep ⟨⟨rfl,rfl⟩,⟨rfl,rfl⟩,⟨rfl,rfl⟩,⟨rfl,rfl⟩,⟨rfl,rfl⟩,⟨rfl,rfl⟩,trivial⟩ ⟨⟨rfl,rfl⟩,⟨rfl,rfl⟩,⟨rfl,rfl⟩,trivial⟩⟩,fun k ⟨hk,hinv⟩=>?_⟩
 conv=>whnf
 refine ae (fun h1=>?_) (fun h1=>?_) <;> (rw[h1];conv=>whnf)
 . have hlt:k<w.zones.length:=by simpa using h1
   obtain⟨x,hx⟩:∃x,w.zones[k]? =some x:=⟨_,ai hlt⟩
   rw[u3 hx]at hinv;refine⟨aH k,b7 x,aU hx,?_⟩
   conv=>whnf
   repeat' (first | (refine⟨_,_,uk x.zone,?_⟩;conv=>whnf) | (refine ae (fun h=>?_) (fun h=>?_) <;> (rw[h];conv=>whnf)) | (refine⟨_,tJ x _,?_⟩;cases hc:(w.zones.take k).any (gK x) <;> (conv=>whnf)) | fail)
   all_goals first
    | (refine af rfl ?_;show AV.d (D.bool false)=AV.d (D.bool _);rw[<- hinv];clear hinv hle;(try simp only[ao]at *);simp only[*, if_true,if_false,ay,aJ,aI,aK,aM,aL,az,aC,aD,aE,aF,aB];done)
    | (refine ⟨_, Le hc, ?_⟩
       conv=>whnf
       refine⟨k+1,⟨hlt,?_⟩,by(show w.zones.length-(k+1)<w.zones.length-k;omega),an.keep ⟨⟨rfl,rfl⟩,⟨rfl,rfl⟩,⟨rfl,rfl⟩,⟨au (by omega),rfl⟩,⟨rfl,rfl⟩,⟨rfl,rfl⟩,trivial⟩ ⟨⟨rfl,rfl⟩,⟨?_,rfl⟩,⟨?_,rfl⟩,trivial⟩⟩
       . rw[bt hx];rw[<- hinv];clear hinv hle;(try simp only[ao]at *);simp only[*, if_true,if_false,ay,aJ,aI,aK,aM,aL,az,aC,aD,aE,aF,aB]
       . rw[bt hx];rfl
       . rw[bt hx,JS];rfl)
 . obtain rfl:k=w.zones.length:=by simp at h1;omega
   refine af rfl ?_;rw[<- hinv,List.drop_length,List.take_length];rfl
theorem Ad(w:bJ)(h1:w.hosts.length<=100000)(h2:w.zones.length<=100000)(h3:w.hints.length<=100000):NQ.Fn cx 43 [.agg (cv w)] (.d (.bool (cF w))) []:=by
 refine aO bf mixed Tryz.func43 (by kernel_rfl) rfl (ah rfl) ?_;conv=>whnf
 (refine⟨_,_,AB w.hosts h1,?_⟩;conv=>whnf)
 refine ae (fun h=>?_) (fun h=>?_) <;> (rw[h];conv=>whnf)
 . (refine⟨_,_,y1 w h2,?_⟩;conv=>whnf)
   refine ae (fun h' =>?_) (fun h' =>?_) <;> (rw[h'];conv=>whnf)
   . (refine⟨_,_,CT w.anchor w.hints h3,?_⟩;conv=>whnf)
     refine af rfl ?_;unfold cF;rw[h,h'];rfl
   . refine af rfl ?_;unfold cF;rw[h,h'];rfl
 . refine af rfl ?_;unfold cF;rw[h];rfl
end Go.Proofs.YtjapjahfllomkaaGreatDoor
namespace NP
open NQ Go
def eu(a:Bs):List (Bs×Nat)->Option Nat
 | []=>none
 | (b,i)::t=>if a=b then some i else eu a t
def fC(a:Bs)(i:Nat):List (Bs×Nat)->List (Bs×Nat)
 | []=>[(a,i)]
 | (b,j)::t=>if a=b then(b,i)::t else(b,j)::fC a i t
theorem nP(a b:Bs)(i:Nat):∀m,eu b (fC a i m)=if a=b then some i else eu b m
 | []=>by
  simp only[fC,eu];by_cases h:a=b
  . rw[if_pos h.symm,if_pos h]
  . rw[if_neg (Ne.symm h),if_neg h]
 | (c,j)::t=>by
  unfold fC;by_cases hc:a=c
  . rw[if_pos hc];subst hc;unfold eu;by_cases h:b=a
    . rw[if_pos h,if_pos h.symm]
    . rw[if_neg h,if_neg h,if_neg (Ne.symm h)]
  . rw[if_neg hc];unfold eu;by_cases h:b=c
    . rw[if_pos h,if_pos h,if_neg (fun e=>hc (e.trans h))]
    . rw[if_neg h,if_neg h];exact nP a b i t
def du(p q:ag):Bool:=decide ((fc p.zone).1>(fc q.zone).1)||(decide ((fc p.zone).1=(fc q.zone).1)&&decide (p.host<q.host))
def gn(zs:List ag)(m:List (Bs×Nat))(p:ag):Bool:=match eu p.zone.apex m with
 | none=>true
 | some j=>(match zs[j]? with | some q=>du p q | none=>false)
def iz(zs:List ag):Nat->List ag->List (Bs×Nat)->List (Bs×Nat)
 | _,[],m=>m
 | i,p::t,m=>iz zs (i+1) t (if gn zs m p=true then fC p.zone.apex i m else m)
def dx(zs:List ag):List (Bs×Nat):=iz zs 0 zs []
theorem Jo{zs l:List ag}{k:Nat}{p:ag}(hp:l[k]? =some p)(m:List (Bs×Nat)):iz zs k (l.drop k) m=iz zs (k+1) (l.drop (k+1)) (if gn zs m p=true then fC p.zone.apex k m else m):=by
 rw[drop_cons hp];rfl
def jq(zs:List ag)(m:List (Bs×Nat)):Prop:= ∀a j,eu a m=some j-> ∃p,zs[j]? =some p/\p.zone.apex=a
theorem jq.put{zs:List ag}{m:List (Bs×Nat)}(h:jq zs m){i:Nat}{p:ag}(hp:zs[i]? =some p):jq zs (fC p.zone.apex i m):=by
 intro a j hj;rw[nP]at hj;split at hj
 . cases hj;exact⟨p,hp,by assumption⟩
 . exact h a j hj
theorem jq.go{zs:List ag}:∀(l:List ag) (i:Nat) (m:List (Bs×Nat)),(∀j,l[j]? =zs[i+j]?)->jq zs m->jq zs (iz zs i l m)
 | [],i,m,_,h=>h
 | p::t,i,m,hl,h=>by
  unfold iz;refine jq.go t (i+1) _ (fun j=>by have:=hl (j+1);simp at this;rw[this];congr 1;omega) ?_;split
  . exact h.put (by have:=hl 0;simpa using this.symm)
  . exact h
theorem zZ(zs:List ag):jq zs (dx zs):=jq.go zs 0 [] (fun j=>by rw[Nat.zero_add]) (fun a j h=>by cases h)
def lR(zs:List ag)(m:List (Bs×Nat))(q:bg):Nat->Bs->Ans×Bool
 | 0,_=>(lp,false)
 | f+1,a=>match eu a m with
  | none=>(lp,false)
  | some i=>(match zs[i]? with
   | some p=>if ((bG p.zone q).1.kind != 4)=true then((bG p.zone q).1,true)else lR zs m q f (bG p.zone q).1.cut
   | none=>(lp,false))
def eP(zs:List ag):Prop:= ∀p∈zs,eI p.zone=true/\bE p.zone=true
theorem gJ{z:aQ}{q:bg}(u:Use z q)(hk:((bG z q).1.kind != 4)=false):aG q.name (bG z q).1.cut=true/\(back z.apex).length<(back (bG z q).1.cut).length/\aj (bG z q).1.cut=true/\(bG z q).1.cut∈cD z.apex z.sets:=by
 cases hr:eC (vw z q)with
 | false =>
  have:=(u.EO hr).1;simp only[bne,this]at hk;cases hk
 | true =>
  obtain⟨s0,R,h1,h2,h3,_⟩:=u.Mj hr;rw[h3];have hne:bw z q.name ≠ []:=by intro e;rw[CY,e]at hr;cases hr
  have hcut:bw z q.name∈cD z.apex z.sets/\aG q.name (bw z q.name)=true:=by
   unfold bw at hne ⊢;cases hf:(cD z.apex z.sets).find? fun c=>aG q.name c with
   | none=>rw[hf]at hne;exact absurd rfl hne
   | some c=>exact⟨List.mem_of_find?_eq_some hf,by have:=List.find?_some hf;simpa using this⟩
  obtain⟨hc,hu⟩:=hcut;have ho:=u.ord;obtain⟨s,hs,hi,he⟩:=(lH z.apex _ z.sets).1 hc;have hua:=ho.under s hs;have hsv:=ho.name s hs;unfold bx at hua;rw[if_pos ⟨hsv,ho.apex⟩,he]at hua;refine⟨hu,?_,he ▸ hsv,hc⟩;have hpre:=(dN _ _).1 hua;have hle:=hpre.length_le;rcases Nat.lt_or_ge (back z.apex).length (back (bw z q.name)).length with h | h
  . exact h
  . have e:back z.apex=back (bw z q.name):=hpre.eq_of_length (by omega);have:bw z q.name=z.apex:=oE hua ((dN _ _).2 (by rw[e];exact List.prefix_rfl));unfold dK at hi;rw[he,this]at hi;simp at hi
end NP
namespace Go.Proofs.YtjapjahfllomkaaGreatDoor
open NQ Go NP Go.RowKit
end Go.Proofs.YtjapjahfllomkaaGreatDoor
namespace NP
open NQ Go
theorem iP(a:Bs):aG a [46]=true:=by
 rw[dN];show([]:List Bs) <+: _
 exact List.nil_prefix
def gE(zs:List ag)(q:bg):Ans×Bool:=lR zs (dx zs) q ((back q.name).length+2) [46]
end NP
namespace Go.Proofs.YtjapjahfllomkaaGreatDoor
open NQ Go NP Go.RowKit
end Go.Proofs.YtjapjahfllomkaaGreatDoor
namespace NP
open NQ Go
theorem tW{zs:List ag}{q:bg}(hg:eP zs)(hq:bZ q=true){m:List (Bs×Nat)}(hm:jq zs m):∀(f:Nat) (a:Bs),aG q.name a=true-> ∀x,lR zs m q f a=(x,true)-> ∃p∈zs,Use p.zone q/\x=(bG p.zone q).1/\(x.kind != 4)=true
 | 0,a,hu,x,h=>by cases h
 | f+1,a,hu,x,h=>by
  unfold lR at h;cases hi:eu a m with
  | none=>rw[hi]at h;cases h
  | some i =>
   rw[hi]at h;obtain⟨p,hp,ha⟩:=hm a i hi;dsimp only at h;rw[hp]at h;dsimp only at h;have hmem:=aq hp;obtain⟨g1,g2⟩:=hg p hmem;have u:Use p.zone q:=⟨g1,g2,hq,by rw[ha];exact hu⟩
   cases hk:((bG p.zone q).1.kind != 4)with
   | true=>rw[hk,if_pos rfl]at h;cases h;exact⟨p,hmem,u,rfl,hk⟩
   | false =>
    rw[hk,if_neg (by simp)]at h;exact tW hg hq hm f _ (gJ u hk).1 x h
theorem CC{zs:List ag}{q:bg}(hg:eP zs)(hq:bZ q=true){x:Ans}(h:gE zs q=(x,true)):∃p∈zs,Use p.zone q/\x=(bG p.zone q).1/\(x.kind != 4)=true :=
 tW hg hq (zZ zs) _ _ (iP q.name) x h
theorem G8{s:fZ}(h:dZ s=true)(ht:s.type=3):∃d,s.data=[d]/\aj d.text=true:=by
 unfold dZ at h;simp only[aP,Bool.not_eq_true',Bool.or_eq_false_iff,Bool.not_eq_false']at h;obtain⟨⟨⟨⟨_,_⟩,hw⟩,hs,_⟩,hall⟩:=h;rw[ht]at hs hall;have h1:s.data.length=1:=by
  have:(fo 3).single=true:=rfl;rw[this,aE]at hs;have:(s.data.length:Int)=1:=by simpa using hs
  omega
 obtain⟨d,hd⟩:∃d,s.data=[d]:=List.length_eq_one_iff.1 h1;refine⟨d,hd,?_⟩;rw[hd]at hall;have:=ax.1 hall 0 (by simp);rw[wc (d:=d) (p:=d) rfl rfl]at this;unfold nE at this;simp only[Bool.not_eq_true',Bool.or_eq_false_iff,Bool.not_eq_false']at this;have hv:=this.1;unfold fI at hv;simp only[aP]at hv;have ht:=hv.2;have e:(fo 3).text=1:=rfl;rw[e]at ht;simp only[kj,if_true,aP]at ht;exact ht.1
theorem Use.NJ{z:aQ}{q:bg}(u:Use z q)(hk:(bG z q).1.kind=3):∃s R d,(bG z q).1.sets=s::R/\s∈z.sets/\s.set.type=3/\s.set.data=[d]/\aj d.text=true:=by
 have key:∀(q' :bg) (rest:List Int),q'.type=3->(decide (atI z.sets q' >=0))=true->(bG z q).1.sets=cj z.sets [] (atI z.sets q' ::rest)-> ∃s R d,(bG z q).1.sets=s::R/\s∈z.sets/\s.set.type=3/\s.set.data=[d]/\aj d.text=true:=fun q' rest ht hat hs=>by
  have hh:cd z.sets q' =true:=by
   have:=jD z.sets q';cases hc:cd z.sets q' with
   | true=>rfl
   | false=>rw[hc]at this;simp at this hat;omega
  obtain⟨k,s,h1,h2,h3⟩:=oc hh;have hm:=aq h2;have ht3:s.set.type=3:=by have:=congrArg Prod.snd h3;exact(show s.set.type=q'.type from this).trans ht
  obtain⟨d,hd,hv⟩:=G8 (u.ord.set s hm) ht3;refine⟨s,cj z.sets ([]++[atI z.sets q']) rest,d,?_,hm,ht3,hd,hv⟩;rw[hs,cj,if_neg (by rw[h1];simp),h1];simp[h2]
 rw[u.ans]at hk key ⊢;dsimp only at hk key ⊢;unfold fp at hk key ⊢;split at hk
 . exfalso;rename_i hr;unfold jz at hk;rw[if_pos hr]at hk;simp at hk
 rename_i hr;rw[if_neg hr]at key ⊢;split at hk
 . simp[xe]at hk
 rename_i hd;rw[if_neg hd]at key ⊢;split at hk
 . rename_i ha;rw[if_pos ha]at key ⊢;have:decide (atI z.sets ⟨q.name,3⟩>=0)=true:=by unfold ny at ha;simp only[aP]at ha;exact ha.1
   exact key ⟨q.name,3⟩ [] rfl this rfl
 rename_i ha;rw[if_neg ha]at key ⊢;split at hk
 . exfalso;rename_i hx;unfold kH at hk;rw[if_pos hx]at hk;simp at hk
 rename_i hx;rw[if_neg hx]at key ⊢;split at hk
 . simp[yd]at hk
 rename_i hw;rw[if_neg hw]at key ⊢;split at hk
 . rename_i hwa;rw[if_pos hwa]at key ⊢;have hs:(cg (vw z q)).sets=z.sets:=vr _;have:decide (atI z.sets ⟨(cg (vw z q)).cN,3⟩>=0)=true:=by unfold fK at hwa;simp only[aP]at hwa;rw[hs]at hwa;exact hwa.1
   refine key ⟨(cg (vw z q)).cN,3⟩ [eH (cg (vw z q)).sets (cg (vw z q)).q.name] rfl this ?_;unfold mC;rw[hs]
 rename_i hwa;split at hk
 . exfalso;unfold kQ at hk;(try split at hk) <;> simp at hk
 . exfalso;unfold jK at hk;(try split at hk) <;> simp at hk
theorem sI{n:Nat}:∀(l seen:List ag),fq n seen l=true-> ∀p∈l,bE p.zone=true/\0<=p.host/\p.host<(n:Int)
 | [],_,_,p,hp=>by cases hp
 | x::t,seen,h,p,hp=>by
  unfold fq at h;simp only[aP,Bool.not_eq_true',Bool.or_eq_false_iff,Bool.not_eq_false',decide_eq_false_iff_not]at h;rcases List.mem_cons.1 hp with rfl | hp
  . exact⟨h.1.2,by omega,by omega⟩
  . exact sI t _ h.2 p hp
theorem pj{w:bJ}(h:cF w=true):∀p∈w.zones,bE p.zone=true/\0<=p.host/\p.host<(w.hosts.length:Int):=by
 unfold cF lG at h;simp only[aP]at h;exact sI _ _ h.1.2.1.2
structure kR(w:bJ):Prop where
 hosts:w.hosts.length<=1000
 zones:w.zones.length<=1000
 hints:w.hints.length<=1000
 few:∀p∈w.zones,eI p.zone=true
end NP
namespace Go.Proofs.YtjapjahfllomkaaGreatDoor
open NQ Go NP Go.RowKit
end Go.Proofs.YtjapjahfllomkaaGreatDoor
