/-
  Reference 07 on plain data: Add, Cover, Has, Exists, Closest, Wildcard.
-/
import Derived.Test.YtjapjahfllomkaaGreatDoorAbM
import Derived.Test.YtjapjahfllomkaaGreatDoorLraM
import Derived.Test.YtjapjahfllomkaaGreatDoorMCa
import Derived.Test.YtjapjahfllomkaaGreatDoorMRb
set_option linter.all false
set_option maxRecDepth 100000
namespace NP
open NQ Go
def bn(l:List Signed)(z:aQ)(q:bg):List Signed :=
 if decide (atI z.sets q<0)=true then l else if cd l q=true then l else l++(match z.sets[(atI z.sets q).toNat]? with | some s=>[s] | none=>[])
def lY(n:Bs)(s:Signed):Bool:=(s.set.type==8)&&decide (aR s.set.name n<=0)
def kT(l:List Signed)(n:Bs):Nat->Option Signed
 | 0=>none
 | k+1=>match l[k]? with | some s=>if lY n s=true then some s else kT l n k | none=>kT l n k
def bK(l:List Signed)(z:aQ)(n:Bs):List Signed:=match kT z.sets n z.sets.length with | some s=>bn l z ⟨s.set.name,8⟩ | none=>l
def gR(z:aQ)(n:Bs):Bool:=z.sets.any fun s=>s.set.name==n
def cQ(z:aQ)(n:Bs):Bool:=z.sets.any fun s=>aG s.set.name n
def vZ(z:aQ):Nat->Bs->Bs
 | 0,n=>n
 | f+1,n=>if cQ z n=true then n else vZ z f (cw n)
def cV(z:aQ)(n:Bs):Bs:=vZ z ((bd n).length+1) n
theorem iR(l:List Signed)(z:aQ)(q:bg):(bn l z q).length<=l.length+1:=by
 unfold bn;split
 . omega
 . split
   . omega
   . rw[List.length_append];split <;> simp
theorem zH{s:Bs}(h:aj s=true)(x:Bs)(hx:x∈bd s):x.length<=60:=by
 unfold bd at hx;split at hx
 . cases hx
 . exact Nat.le_trans (kM s x hx) (bI h)
theorem A1{l:List Signed}{p:Signed->Bool}{k:Nat}{s:Signed}(hk:l[k]? =some s)(h:(l.take k).any p=false):(l.take (k+1)).any p=p s:=by
 rw[bt hk,List.any_append,h];simp
theorem El{l:List Signed}{p:Signed->Bool}{k:Nat}{s:Signed}(hk:l[k]? =some s)(h:p s=true):l.any p=true:=List.any_eq_true.2 ⟨s,aq hk,h⟩
end NP
namespace Go.Proofs.YtjapjahfllomkaaGreatDoor
open NQ Go NP Go.RowKit
noncomputable def cxR:Cx:={cx with chg:=fun g=>match Nat.beq g 144 with | true=>1 | false=>(match Nat.beq g 145 with | true=>1 | false=>cx.chg g)}
theorem tyR:bA cxR:=bf
theorem Ce:cxR.P.follows .mixedOrders=true:=mixed
theorem mF(l:List Signed)(fl:Bool)(z:aQ)(n:Bs)(t:Int)(hl:l.length<=100000)(hz:z.sets.length<=100000) :
 FnR cx 144 true 74 5 (l.map aw) fl [.agg (bp z), .str n, .int .i64 t] ((bn l z ⟨n,t⟩).map aw):=by
 refine xl (fun _=>[]) bf mixed Tryz.func144 (by kernel_rfl) rfl (ah rfl) ?_;conv=>whnf
 (refine⟨_,_,AF z ⟨n,t⟩ hz,?_⟩;conv=>whnf)
 refine ae (fun hneg=>?_) (fun hneg=>?_) <;> (rw[hneg];conv=>whnf)
 . refine⟨rfl,fl,?_⟩;unfold bn;rw[if_pos hneg];rfl
 refine ⟨Nat, fun k => ⟨[(0, .own 100000), (2, .d (.str n)), (3, .d (.int .i64 t)), (5, .ptr 5 0), (9, .d (.int .i64 (atI z.sets ⟨n, t⟩))), (10, .d (.int .i64 k))],
     [(100000, .row 74 5 (l.map aw) fl),(5, .box ((bp z).map .d))]⟩,fun k=>k<=l.length/\(l.take k).any (is ⟨n,t⟩)=false,fun k=>l.length-k,
  ⟨0,⟨by omega,by simp⟩,an.keep ⟨⟨rfl,rfl⟩,⟨rfl,rfl⟩,⟨rfl,rfl⟩,⟨rfl,rfl⟩,⟨rfl,rfl⟩,⟨rfl,rfl⟩,trivial⟩ ⟨⟨rfl,rfl⟩,⟨rfl,rfl⟩,trivial⟩⟩,fun k ⟨hk,hno⟩=>?_⟩
 conv=>whnf
 refine ae (fun h1=>?_) (fun h1=>?_) <;> (rw[h1];conv=>whnf)
 . have hlt:k<l.length:=by simp at h1;omega
   obtain⟨s,hs⟩:∃s,l[k]? =some s:=⟨_,ai hlt⟩
   have hst:=A1 hs hno
   have next : is ⟨n, t⟩ s = false -> ∀ st, an cx st ⟨[(0, .own 100000), (2, .d (.str n)), (3, .d (.int .i64 t)), (5, .ptr 5 0), (9, .d (.int .i64 (atI z.sets ⟨n, t⟩))), (10, .d (.int .i64 ((k + 1 : Nat) : Int)))], [(100000, .row 74 5 (l.map aw) fl), (5, .box ((bp z).map .d))]⟩ ->
       ∃y:Nat,(y<=l.length/\(l.take y).any (is ⟨n,t⟩)=false)/\l.length-y<l.length-k/\an cx st ⟨[(0, .own 100000),(2, .d (.str n)),(3, .d (.int .i64 t)),(5, .ptr 5 0),(9, .d (.int .i64 (atI z.sets ⟨n,t⟩))),(10, .d (.int .i64 y))],[(100000, .row 74 5 (l.map aw) fl),(5, .box ((bp z).map .d))]⟩:=fun hb st hw =>
    ⟨k+1,⟨hlt,by rw[hst,hb]⟩,by omega,hw⟩
   refine⟨aH k,by(rw[ao];simpa using hlt),?_⟩
   conv=>whnf
   refine⟨aw s,by(rw[aT];show Option.map aw l[((k:Nat):Int).toNat]? =_;rw[show((k:Nat):Int).toNat=k by simp,hs];rfl),?_⟩
   conv=>whnf
   refine ae (fun hn=>?_) (fun hn=>?_) <;> (rw[hn];conv=>whnf)
   . refine⟨aH k,by(rw[ao];simpa using hlt),?_⟩
     conv=>whnf
     refine⟨aw s,by(rw[aT];show Option.map aw l[((k:Nat):Int).toNat]? =_;rw[show((k:Nat):Int).toNat=k by simp,hs];rfl),?_⟩
     conv=>whnf
     refine ae (fun ht=>?_) (fun ht=>?_) <;> (rw[ht];conv=>whnf)
     . refine⟨rfl,fl,?_⟩;have:cd l ⟨n,t⟩=true:=El hs (by unfold is;rw[hn,ht];rfl);unfold bn;rw[if_neg (by simp[hneg]),if_pos this];rfl
     . exact next (by unfold is;rw[hn,ht];rfl) _ (an.keep ⟨⟨rfl,rfl⟩,⟨rfl,rfl⟩,⟨rfl,rfl⟩,⟨rfl,rfl⟩,⟨rfl,rfl⟩,⟨au (by omega),rfl⟩,trivial⟩ ⟨⟨rfl,rfl⟩,⟨rfl,rfl⟩,trivial⟩)
   . exact next (by unfold is;rw[hn];rfl) _ (an.keep ⟨⟨rfl,rfl⟩,⟨rfl,rfl⟩,⟨rfl,rfl⟩,⟨rfl,rfl⟩,⟨rfl,rfl⟩,⟨au (by omega),rfl⟩,trivial⟩ ⟨⟨rfl,rfl⟩,⟨rfl,rfl⟩,trivial⟩)
 . obtain rfl:k=l.length:=by simp at h1;omega
   rw[List.take_length]at hno;have hno' :cd l ⟨n,t⟩=false:=hno;have h0:0<=atI z.sets ⟨n,t⟩:=by simpa using hneg
   have hlt:atI z.sets ⟨n,t⟩<z.sets.length:=by
    unfold atI;split
    . rename_i k hk;have:=(List.findIdx?_eq_some_iff_getElem.1 hk).1;omega
    . omega
   obtain⟨s,hs⟩:∃s,z.sets[(atI z.sets ⟨n,t⟩).toNat]? =some s:=⟨_,ai (by omega)⟩
   refine⟨h0,aw s,by(rw[aT,hs];rfl),?_⟩
   conv=>whnf
   refine⟨by(show(l.map aw).length+1<=_;rw[ao];omega),by(show((l.map aw).length+1)*80<=_;rw[ao];omega),?_⟩
   conv=>whnf
   refine⟨rfl,false,?_⟩;unfold bn;rw[if_neg (by simp[hneg]),if_neg (by simp[hno']),hs,List.map_append];show some (Blk.row _ _ (_++_))=_
   rfl
theorem rm(z:aQ)(n:Bs)(hz:z.sets.length<=100000)(hv:∀s∈z.sets,aj s.set.name=true)(hn:aj n=true):NQ.Fn cx 146 [.agg (bp z), .str n] (.d (.bool (cQ z n))) []:=by
 refine aO bf mixed Tryz.func146 (by kernel_rfl) rfl (ah rfl) ?_;conv=>whnf
 refine⟨Nat,fun k=>⟨[(1, .d (.str n)),(2, .ptr 2 0),(5, .d (.int .i64 k))],[(2, .box ((bp z).map .d))]⟩,fun k=>k<=z.sets.length/\(z.sets.take k).any (fun s=>aG s.set.name n)=false,fun k=>z.sets.length-k,
  ⟨0,⟨by omega,by simp⟩,an.keep ⟨⟨rfl,rfl⟩,⟨rfl,rfl⟩,⟨rfl,rfl⟩,trivial⟩ ⟨⟨rfl,rfl⟩,trivial⟩⟩,fun k ⟨hk,hno⟩=>?_⟩
 conv=>whnf
 refine ae (fun h1=>?_) (fun h1=>?_) <;> (rw[h1];conv=>whnf)
 . have hlt:k<z.sets.length:=by simp at h1;omega
   obtain⟨s,hs⟩:∃s,z.sets[k]? =some s:=⟨_,ai hlt⟩
   have hst:=A1 hs hno;refine⟨aH k,aw s,aU hs,?_⟩
   conv=>whnf
   (refine⟨_,_,lT s.set.name n (bI (hv s (aq hs))) (bI hn),?_⟩;conv=>whnf)
   refine ae (fun hu=>?_) (fun hu=>?_) <;> (rw[hu];conv=>whnf)
   . refine af rfl ?_;rw[show cQ z n=true from El (p:=fun s=>aG s.set.name n) hs hu];rfl
   . exact⟨k+1,⟨hlt,by rw[hst,hu]⟩,by(show z.sets.length-(k+1)<z.sets.length-k;omega),an.keep ⟨⟨rfl,rfl⟩,⟨rfl,rfl⟩,⟨au (by omega),rfl⟩,trivial⟩ ⟨⟨rfl,rfl⟩,trivial⟩⟩
 . obtain rfl:k=z.sets.length:=by simp at h1;omega
   refine af rfl ?_;rw[List.take_length]at hno;rw[show cQ z n=false from hno];rfl
theorem Fv(z:aQ)(n:Bs)(hz:z.sets.length<=100000)(hv:∀s∈z.sets,aj s.set.name=true)(hn:aj n=true)(hu:aG n z.apex=true)(hex:cQ z z.apex=true):NQ.Fn cx 148 [.agg (bp z), .str n] (.d (.str (cV z n))) []:=by
 refine aO bf mixed Tryz.func148 (by kernel_rfl) rfl (ah rfl) ?_;conv=>whnf
 refine⟨Bs,fun m=>⟨[(1, .d (.str m)),(2, .ptr 2 0)],[(2, .box ((bp z).map .d))]⟩,fun m=>aj m=true/\aG m z.apex=true/\vZ z ((bd m).length+1) m=cV z n,fun m=>(bd m).length,
  ⟨n,⟨hn,hu,rfl⟩,an.keep ⟨⟨rfl,rfl⟩,⟨rfl,rfl⟩,trivial⟩ ⟨⟨rfl,rfl⟩,trivial⟩⟩,fun m ⟨hm,hum,hgo⟩=>?_⟩
 conv=>whnf
 (refine⟨_,_,rm z m hz hv hm,?_⟩;conv=>whnf)
 rw[vZ]at hgo;refine ae (fun he=>?_) (fun he=>?_) <;> (rw[he];conv=>whnf)
 . have he:cQ z m=false:=by simpa using he
   have hne:m ≠ z.apex:=fun e=>by subst e;rw[hex]at he;cases he
   obtain⟨k1,k2,k3⟩:=kg hm hum hne;rw[if_neg (by simp[he]), <- k3]at hgo;have hl8:=uz hm
   (refine⟨_,_,AR m (by have:=bI hm;omega),?_⟩;conv=>whnf)
   have hlen:1<=(bd m).length:=by omega
   refine⟨by decide,by(show(1:Int)<=((bd m).map aA).length;rw[ao];omega),by(show(((bd m).map aA).length:Int)<=((bd m).map aA).length;omega),?_⟩
   conv=>whnf
   have e:(((bd m).map aA).drop (1:Int).toNat).take ((((bd m).map aA).length:Int).toNat-(1:Int).toNat)=((bd m).tail).map aA:=by
    rw[List.take_of_length_le (by simp),List.map_tail, <- List.drop_one];rfl
   rw[e]
   (refine⟨_,_,Ej (bd m).tail (by simp;omega) (fun x hx=>by have:=zH hm x (List.mem_of_mem_tail hx);omega),?_⟩;conv=>whnf)
   exact⟨cw m,⟨eV hm,k2,hgo⟩,by(show(bd (cw m)).length<(bd m).length;omega),an.keep ⟨⟨rfl,rfl⟩,⟨rfl,rfl⟩,trivial⟩ ⟨⟨rfl,rfl⟩,trivial⟩⟩
 . have he:cQ z m=true:=by simpa using he
   rw[if_pos he]at hgo;refine af rfl ?_;rw[hgo];rfl
theorem Eg(n:Bs)(hn:aj n=true):NQ.Fn cx 147 [.str n] (.tuple [.d (.str (cA ([42]::bd n)).1), .d (.bool ((cA ([42]::bd n)).2==0))]) []:=by
 refine aO bf mixed Tryz.func147 (by kernel_rfl) rfl (ah rfl) ?_;conv=>whnf
 have hl8:=uz hn
 (refine⟨_,_,AR n (by have:=bI hn;omega),?_⟩;conv=>whnf)
 refine⟨by(show 1+((bd n).map aA).length<=_;rw[ao];omega),by(show(1+((bd n).map aA).length)*16<=_;rw[ao];omega),?_⟩
 conv=>whnf
 have hj:=JK ([42]::bd n) (by simp;omega) (fun x hx=>by
  rcases List.mem_cons.1 hx with rfl | hx
  . decide
  . have:=zH hn x hx;omega)
 refine⟨_,hj,rfl,?_⟩
 conv=>whnf
 exact af rfl rfl
theorem nC(l:List Signed)(fl:Bool)(z:aQ)(n:Bs)(hl:l.length<=100000)(hz:z.sets.length<=100000)(hv:∀s∈z.sets,aj s.set.name=true)(hn:aj n=true) :
 FnR cx 145 true 74 5 (l.map aw) fl [.agg (bp z), .str n] ((bK l z n).map aw):=by
 refine ig (cx:=cxR) (cx' :=cx) rfl rfl ?_;refine xl (fun _=>[]) tyR Ce Tryz.func145 (by kernel_rfl) rfl (ah rfl) ?_
 conv=>whnf
 have hw:∀m:Nat,m<=100000->IntKind.i64.wrap (((m:Nat):Int)-1)=((m:Nat):Int)-1:=fun m hm=>wrap_i64 (by omega) (by omega)
 refine⟨Nat,fun k=>⟨[(0, .own 100000),(2, .d (.str n)),(4, .ptr 4 0),(7, .d (.int .i64 ((k:Int)-1)))],[(100000, .row 74 5 (l.map aw) fl),(4, .box ((bp z).map .d))]⟩,
  fun k=>k<=z.sets.length/\kT z.sets n k=kT z.sets n z.sets.length,fun k=>k,
  ⟨z.sets.length,⟨by omega,rfl⟩,an.keep ⟨⟨rfl,rfl⟩,⟨rfl,rfl⟩,⟨rfl,rfl⟩,⟨?_,rfl⟩,trivial⟩ ⟨⟨rfl,rfl⟩,⟨rfl,rfl⟩,trivial⟩⟩,fun k ⟨hk,hgo⟩=>?_⟩
 . show AV.d (D.int .i64 (IntKind.i64.wrap (((z.sets.map aw).length:Int)-1)))=_
   rw[ao,hw _ hz]
 conv=>whnf
 refine ae (fun h1=>?_) (fun h1=>?_) <;> (rw[h1];conv=>whnf)
 . obtain⟨m,rfl⟩:∃m,k=m+1:=⟨k-1,by simp at h1;omega⟩
   have hm1:(((m+1:Nat):Int)-1)=(m:Int):=by omega
   obtain⟨s,hs⟩:∃s,z.sets[m]? =some s:=⟨_,ai (by omega)⟩
   have hvs:=hv s (aq hs);rw[kT,hs]at hgo;simp only at hgo;refine⟨by omega,aw s,by(rw[hm1];exact aU hs),?_⟩
   conv=>whnf
   have next : lY n s = false -> ∀ st, an cxR st ⟨[(0, .own 100000), (2, .d (.str n)), (4, .ptr 4 0), (7, .d (.int .i64 (IntKind.i64.wrap (((m + 1 : Nat) : Int) - 1 - 1))))], [(100000, .row 74 5 (l.map aw) fl), (4, .box ((bp z).map .d))]⟩ ->
       ∃y:Nat,(y<=z.sets.length/\kT z.sets n y=kT z.sets n z.sets.length)/\y<m+1/\an cxR st ⟨[(0, .own 100000),(2, .d (.str n)),(4, .ptr 4 0),(7, .d (.int .i64 ((y:Int)-1)))],[(100000, .row 74 5 (l.map aw) fl),(4, .box ((bp z).map .d))]⟩:=fun hb st hw' =>
    ⟨m,⟨by omega,by rw[<- hgo,if_neg (by simp[hb])]⟩,by omega,by rw[hm1,hw m (by omega)]at hw';exact hw'⟩
   refine ae (fun ht=>?_) (fun ht=>?_) <;> (rw[ht];conv=>whnf)
   . (refine⟨_,_,sy s.set.name n (bI hvs) (bI hn),?_⟩;conv=>whnf)
     refine ae (fun ho=>?_) (fun ho=>?_) <;> (rw[ho];conv=>whnf)
     . have hit:lY n s=true:=by unfold lY;rw[ht,ho];rfl
       rw[if_pos hit]at hgo;refine⟨_,ig (cx:=cx) (cx' :=cxR) rfl rfl (mF l fl z s.set.name 8 hl hz),?_⟩
       conv=>whnf
       refine⟨rfl,false,?_⟩;unfold bK;rw[<- hgo];rfl
     . exact next (by unfold lY;rw[ht,ho];rfl) _ (an.keep ⟨⟨rfl,rfl⟩,⟨rfl,rfl⟩,⟨rfl,rfl⟩,⟨rfl,rfl⟩,trivial⟩ ⟨⟨rfl,rfl⟩,⟨rfl,rfl⟩,trivial⟩)
   . exact next (by unfold lY;rw[ht];rfl) _ (an.keep ⟨⟨rfl,rfl⟩,⟨rfl,rfl⟩,⟨rfl,rfl⟩,⟨rfl,rfl⟩,trivial⟩ ⟨⟨rfl,rfl⟩,⟨rfl,rfl⟩,trivial⟩)
 . obtain rfl:k=0:=by simp at h1;omega
   refine⟨rfl,fl,?_⟩;unfold bK;rw[<- hgo];rfl
end Go.Proofs.YtjapjahfllomkaaGreatDoor
