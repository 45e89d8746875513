/-
  Reference 07 on plain data: Add, Cover, Has, Exists, Closest, Wildcard.
-/
import Derived.Test.YtcecidfnchcagaaGreatDoorAbM
import Derived.Test.YtcecidfnchcagaaGreatDoorLraM
import Derived.Test.YtcecidfnchcagaaGreatDoorMCa
import Derived.Test.YtcecidfnchcagaaGreatDoorMRb
set_option linter.all false
set_option maxRecDepth 100000
namespace NP
open NQ Go
def bl(l:List Signed)(z:aP)(q:aW):List Signed :=
 if decide (atI z.sets q<0)=true then l else if b9 l q=true then l else l++(match z.sets[(atI z.sets q).toNat]? with | some s=>[s] | none=>[])
def lJ(n:Bs)(s:Signed):Bool:=(s.set.type==8)&&decide (aQ s.set.name n<=0)
def kD(l:List Signed)(n:Bs):Nat->Option Signed
 | 0=>none
 | k+1=>match l[k]? with | some s=>if lJ n s=true then some s else kD l n k | none=>kD l n k
def bJ(l:List Signed)(z:aP)(n:Bs):List Signed:=match kD z.sets n z.sets.length with | some s=>bl l z ⟨s.set.name,8⟩ | none=>l
def gH(z:aP)(n:Bs):Bool:=z.sets.any fun s=>s.set.name==n
def cP(z:aP)(n:Bs):Bool:=z.sets.any fun s=>aL s.set.name n
def vq(z:aP):Nat->Bs->Bs
 | 0,n=>n
 | f+1,n=>if cP z n=true then n else vq z f (cn n)
def cS(z:aP)(n:Bs):Bs:=vq z ((bc n).length+1) n
theorem iG(l:List Signed)(z:aP)(q:aW):(bl l z q).length<=l.length+1:=by
 unfold bl;split
 . omega
 . split
   . omega
   . rw[List.length_append];split <;> simp
theorem za{s:Bs}(h:aj s=true)(x:Bs)(hx:x∈bc s):x.length<=60:=by
 unfold bc at hx;split at hx
 . cases hx
 . exact Nat.le_trans (ku s x hx) (bP h)
theorem Az{l:List Signed}{p:Signed->Bool}{k:Nat}{s:Signed}(hk:l[k]? =some s)(h:(l.take k).any p=false):(l.take (k+1)).any p=p s:=by
 rw[bw hk,List.any_append,h];simp
theorem DJ{l:List Signed}{p:Signed->Bool}{k:Nat}{s:Signed}(hk:l[k]? =some s)(h:p s=true):l.any p=true:=List.any_eq_true.2 ⟨s,ao hk,h⟩
end NP
namespace Go.Proofs.YtcecidfnchcagaaGreatDoor
open NQ Go NP Go.RowKit
noncomputable def cxR:Cx:={cx with chg:=fun g=>match Nat.beq g 151 with | true=>1 | false=>(match Nat.beq g 152 with | true=>1 | false=>cx.chg g)}
theorem tyR:bu cxR:=bf
theorem BG:cxR.P.follows .mixedOrders=true:=mixed
theorem mg(l:List Signed)(fl:Bool)(z:aP)(n:Bs)(t:Int)(hl:l.length<=100000)(hz:z.sets.length<=100000) :
 FnR cx 151 true 79 5 (l.map au) fl [.agg (bo z), .str n, .int .i64 t] ((bl l z ⟨n,t⟩).map au):=by
 refine wJ (fun _=>[]) bf mixed Tryz.func151 (by kernel_rfl) rfl (ag rfl) ?_;conv=>whnf
 (refine⟨_,_,z8 z ⟨n,t⟩ hz,?_⟩;conv=>whnf)
 refine ae (fun hneg=>?_) (fun hneg=>?_) <;> (rw[hneg];conv=>whnf)
 . refine⟨rfl,fl,?_⟩;unfold bl;rw[if_pos hneg];rfl
 refine ⟨Nat, fun k => ⟨[(0, .own 100000), (2, .d (.str n)), (3, .d (.int .i64 t)), (5, .ptr 5 0), (9, .d (.int .i64 (atI z.sets ⟨n, t⟩))), (10, .d (.int .i64 k))],
     [(100000, .row 79 5 (l.map au) fl),(5, .box ((bo z).map .d))]⟩,fun k=>k<=l.length/\(l.take k).any (is ⟨n,t⟩)=false,fun k=>l.length-k,
  ⟨0,⟨by omega,by simp⟩,an.keep ⟨⟨rfl,rfl⟩,⟨rfl,rfl⟩,⟨rfl,rfl⟩,⟨rfl,rfl⟩,⟨rfl,rfl⟩,⟨rfl,rfl⟩,trivial⟩ ⟨⟨rfl,rfl⟩,⟨rfl,rfl⟩,trivial⟩⟩,fun k ⟨hk,hno⟩=>?_⟩
 conv=>whnf
 refine ae (fun h1=>?_) (fun h1=>?_) <;> (rw[h1];conv=>whnf)
 . have hlt:k<l.length:=by simp at h1;omega
   obtain⟨s,hs⟩:∃s,l[k]? =some s:=⟨_,ah hlt⟩
   have hst:=Az hs hno
   have next : is ⟨n, t⟩ s = false -> ∀ st, an cx st ⟨[(0, .own 100000), (2, .d (.str n)), (3, .d (.int .i64 t)), (5, .ptr 5 0), (9, .d (.int .i64 (atI z.sets ⟨n, t⟩))), (10, .d (.int .i64 ((k + 1 : Nat) : Int)))], [(100000, .row 79 5 (l.map au) fl), (5, .box ((bo z).map .d))]⟩ ->
       ∃y:Nat,(y<=l.length/\(l.take y).any (is ⟨n,t⟩)=false)/\l.length-y<l.length-k/\an cx st ⟨[(0, .own 100000),(2, .d (.str n)),(3, .d (.int .i64 t)),(5, .ptr 5 0),(9, .d (.int .i64 (atI z.sets ⟨n,t⟩))),(10, .d (.int .i64 y))],[(100000, .row 79 5 (l.map au) fl),(5, .box ((bo z).map .d))]⟩:=fun hb st hw =>
    ⟨k+1,⟨hlt,by rw[hst,hb]⟩,by omega,hw⟩
   refine⟨aJ k,by(rw[ak];simpa using hlt),?_⟩
   conv=>whnf
   refine⟨au s,by(rw[aR];show Option.map au l[((k:Nat):Int).toNat]? =_;rw[show((k:Nat):Int).toNat=k by simp,hs];rfl),?_⟩
   conv=>whnf
   refine ae (fun hn=>?_) (fun hn=>?_) <;> (rw[hn];conv=>whnf)
   . refine⟨aJ k,by(rw[ak];simpa using hlt),?_⟩
     conv=>whnf
     refine⟨au s,by(rw[aR];show Option.map au l[((k:Nat):Int).toNat]? =_;rw[show((k:Nat):Int).toNat=k by simp,hs];rfl),?_⟩
     conv=>whnf
     refine ae (fun ht=>?_) (fun ht=>?_) <;> (rw[ht];conv=>whnf)
     . refine⟨rfl,fl,?_⟩;have:b9 l ⟨n,t⟩=true:=DJ hs (by unfold is;rw[hn,ht];rfl);unfold bl;rw[if_neg (by simp[hneg]),if_pos this];rfl
     . exact next (by unfold is;rw[hn,ht];rfl) _ (an.keep ⟨⟨rfl,rfl⟩,⟨rfl,rfl⟩,⟨rfl,rfl⟩,⟨rfl,rfl⟩,⟨rfl,rfl⟩,⟨ar (by omega),rfl⟩,trivial⟩ ⟨⟨rfl,rfl⟩,⟨rfl,rfl⟩,trivial⟩)
   . exact next (by unfold is;rw[hn];rfl) _ (an.keep ⟨⟨rfl,rfl⟩,⟨rfl,rfl⟩,⟨rfl,rfl⟩,⟨rfl,rfl⟩,⟨rfl,rfl⟩,⟨ar (by omega),rfl⟩,trivial⟩ ⟨⟨rfl,rfl⟩,⟨rfl,rfl⟩,trivial⟩)
 . obtain rfl:k=l.length:=by simp at h1;omega
   rw[List.take_length]at hno;have hno' :b9 l ⟨n,t⟩=false:=hno;have h0:0<=atI z.sets ⟨n,t⟩:=by simpa using hneg
   have hlt:atI z.sets ⟨n,t⟩<z.sets.length:=by
    unfold atI;split
    . rename_i k hk;have:=(List.findIdx?_eq_some_iff_getElem.1 hk).1;omega
    . omega
   obtain⟨s,hs⟩:∃s,z.sets[(atI z.sets ⟨n,t⟩).toNat]? =some s:=⟨_,ah (by omega)⟩
   refine⟨h0,au s,by(rw[aR,hs];rfl),?_⟩
   conv=>whnf
   refine⟨by(show(l.map au).length+1<=_;rw[ak];omega),by(show((l.map au).length+1)*80<=_;rw[ak];omega),?_⟩
   conv=>whnf
   refine⟨rfl,false,?_⟩;unfold bl;rw[if_neg (by simp[hneg]),if_neg (by simp[hno']),hs,List.map_append];show some (Blk.row _ _ (_++_))=_
   rfl
theorem qK(z:aP)(n:Bs)(hz:z.sets.length<=100000)(hv:∀s∈z.sets,aj s.set.name=true)(hn:aj n=true):NQ.Fn cx 153 [.agg (bo z), .str n] (.d (.bool (cP z n))) []:=by
 refine aM bf mixed Tryz.func153 (by kernel_rfl) rfl (ag rfl) ?_;conv=>whnf
 refine⟨Nat,fun k=>⟨[(1, .d (.str n)),(2, .ptr 2 0),(5, .d (.int .i64 k))],[(2, .box ((bo z).map .d))]⟩,fun k=>k<=z.sets.length/\(z.sets.take k).any (fun s=>aL s.set.name n)=false,fun k=>z.sets.length-k,
  ⟨0,⟨by omega,by simp⟩,an.keep ⟨⟨rfl,rfl⟩,⟨rfl,rfl⟩,⟨rfl,rfl⟩,trivial⟩ ⟨⟨rfl,rfl⟩,trivial⟩⟩,fun k ⟨hk,hno⟩=>?_⟩
 conv=>whnf
 refine ae (fun h1=>?_) (fun h1=>?_) <;> (rw[h1];conv=>whnf)
 . have hlt:k<z.sets.length:=by simp at h1;omega
   obtain⟨s,hs⟩:∃s,z.sets[k]? =some s:=⟨_,ah hlt⟩
   have hst:=Az hs hno;refine⟨aJ k,au s,aT hs,?_⟩
   conv=>whnf
   (refine⟨_,_,lD s.set.name n (bP (hv s (ao hs))) (bP hn),?_⟩;conv=>whnf)
   refine ae (fun hu=>?_) (fun hu=>?_) <;> (rw[hu];conv=>whnf)
   . refine af rfl ?_;rw[show cP z n=true from DJ (p:=fun s=>aL s.set.name n) hs hu];rfl
   . exact⟨k+1,⟨hlt,by rw[hst,hu]⟩,by(show z.sets.length-(k+1)<z.sets.length-k;omega),an.keep ⟨⟨rfl,rfl⟩,⟨rfl,rfl⟩,⟨ar (by omega),rfl⟩,trivial⟩ ⟨⟨rfl,rfl⟩,trivial⟩⟩
 . obtain rfl:k=z.sets.length:=by simp at h1;omega
   refine af rfl ?_;rw[List.take_length]at hno;rw[show cP z n=false from hno];rfl
theorem ET(z:aP)(n:Bs)(hz:z.sets.length<=100000)(hv:∀s∈z.sets,aj s.set.name=true)(hn:aj n=true)(hu:aL n z.apex=true)(hex:cP z z.apex=true):NQ.Fn cx 155 [.agg (bo z), .str n] (.d (.str (cS z n))) []:=by
 refine aM bf mixed Tryz.func155 (by kernel_rfl) rfl (ag rfl) ?_;conv=>whnf
 refine⟨Bs,fun m=>⟨[(1, .d (.str m)),(2, .ptr 2 0)],[(2, .box ((bo z).map .d))]⟩,fun m=>aj m=true/\aL m z.apex=true/\vq z ((bc m).length+1) m=cS z n,fun m=>(bc m).length,
  ⟨n,⟨hn,hu,rfl⟩,an.keep ⟨⟨rfl,rfl⟩,⟨rfl,rfl⟩,trivial⟩ ⟨⟨rfl,rfl⟩,trivial⟩⟩,fun m ⟨hm,hum,hgo⟩=>?_⟩
 conv=>whnf
 (refine⟨_,_,qK z m hz hv hm,?_⟩;conv=>whnf)
 rw[vq]at hgo;refine ae (fun he=>?_) (fun he=>?_) <;> (rw[he];conv=>whnf)
 . have he:cP z m=false:=by simpa using he
   have hne:m ≠ z.apex:=fun e=>by subst e;rw[hex]at he;cases he
   obtain⟨k1,k2,k3⟩:=jW hm hum hne;rw[if_neg (by simp[he]), <- k3]at hgo;have hl8:=x9 hm
   (refine⟨_,_,Ap m (by have:=bP hm;omega),?_⟩;conv=>whnf)
   have hlen:1<=(bc m).length:=by omega
   refine⟨by decide,by(show(1:Int)<=((bc m).map aI).length;rw[ak];omega),by(show(((bc m).map aI).length:Int)<=((bc m).map aI).length;omega),?_⟩
   conv=>whnf
   have e:(((bc m).map aI).drop (1:Int).toNat).take ((((bc m).map aI).length:Int).toNat-(1:Int).toNat)=((bc m).tail).map aI:=by
    rw[List.take_of_length_le (by simp),List.map_tail, <- List.drop_one];rfl
   rw[e]
   (refine⟨_,_,DH (bc m).tail (by simp;omega) (fun x hx=>by have:=za hm x (List.mem_of_mem_tail hx);omega),?_⟩;conv=>whnf)
   exact⟨cn m,⟨eS hm,k2,hgo⟩,by(show(bc (cn m)).length<(bc m).length;omega),an.keep ⟨⟨rfl,rfl⟩,⟨rfl,rfl⟩,trivial⟩ ⟨⟨rfl,rfl⟩,trivial⟩⟩
 . have he:cP z m=true:=by simpa using he
   rw[if_pos he]at hgo;refine af rfl ?_;rw[hgo];rfl
theorem DF(n:Bs)(hn:aj n=true):NQ.Fn cx 154 [.str n] (.tuple [.d (.str (cy ([42]::bc n)).1), .d (.bool ((cy ([42]::bc n)).2==0))]) []:=by
 refine aM bf mixed Tryz.func154 (by kernel_rfl) rfl (ag rfl) ?_;conv=>whnf
 have hl8:=x9 hn
 (refine⟨_,_,Ap n (by have:=bP hn;omega),?_⟩;conv=>whnf)
 refine⟨by(show 1+((bc n).map aI).length<=_;rw[ak];omega),by(show(1+((bc n).map aI).length)*16<=_;rw[ak];omega),?_⟩
 conv=>whnf
 have hj:=IZ ([42]::bc n) (by simp;omega) (fun x hx=>by
  rcases List.mem_cons.1 hx with rfl | hx
  . decide
  . have:=za hn x hx;omega)
 refine⟨_,hj,rfl,?_⟩
 conv=>whnf
 exact af rfl rfl
theorem nf(l:List Signed)(fl:Bool)(z:aP)(n:Bs)(hl:l.length<=100000)(hz:z.sets.length<=100000)(hv:∀s∈z.sets,aj s.set.name=true)(hn:aj n=true) :
 FnR cx 152 true 79 5 (l.map au) fl [.agg (bo z), .str n] ((bJ l z n).map au):=by
 refine gV (cx:=cxR) (cx' :=cx) rfl rfl ?_;refine wJ (fun _=>[]) tyR BG Tryz.func152 (by kernel_rfl) rfl (ag rfl) ?_
 conv=>whnf
 have hw:∀m:Nat,m<=100000->IntKind.i64.wrap (((m:Nat):Int)-1)=((m:Nat):Int)-1:=fun m hm=>wrap_i64 (by omega) (by omega)
 refine⟨Nat,fun k=>⟨[(0, .own 100000),(2, .d (.str n)),(4, .ptr 4 0),(7, .d (.int .i64 ((k:Int)-1)))],[(100000, .row 79 5 (l.map au) fl),(4, .box ((bo z).map .d))]⟩,
  fun k=>k<=z.sets.length/\kD z.sets n k=kD z.sets n z.sets.length,fun k=>k,
  ⟨z.sets.length,⟨by omega,rfl⟩,an.keep ⟨⟨rfl,rfl⟩,⟨rfl,rfl⟩,⟨rfl,rfl⟩,⟨?_,rfl⟩,trivial⟩ ⟨⟨rfl,rfl⟩,⟨rfl,rfl⟩,trivial⟩⟩,fun k ⟨hk,hgo⟩=>?_⟩
 . show AV.d (D.int .i64 (IntKind.i64.wrap (((z.sets.map au).length:Int)-1)))=_
   rw[ak,hw _ hz]
 conv=>whnf
 refine ae (fun h1=>?_) (fun h1=>?_) <;> (rw[h1];conv=>whnf)
 . obtain⟨m,rfl⟩:∃m,k=m+1:=⟨k-1,by simp at h1;omega⟩
   have hm1:(((m+1:Nat):Int)-1)=(m:Int):=by omega
   obtain⟨s,hs⟩:∃s,z.sets[m]? =some s:=⟨_,ah (by omega)⟩
   have hvs:=hv s (ao hs);rw[kD,hs]at hgo;simp only at hgo;refine⟨by omega,au s,by(rw[hm1];exact aT hs),?_⟩
   conv=>whnf
   have next : lJ n s = false -> ∀ st, an cxR st ⟨[(0, .own 100000), (2, .d (.str n)), (4, .ptr 4 0), (7, .d (.int .i64 (IntKind.i64.wrap (((m + 1 : Nat) : Int) - 1 - 1))))], [(100000, .row 79 5 (l.map au) fl), (4, .box ((bo z).map .d))]⟩ ->
       ∃y:Nat,(y<=z.sets.length/\kD z.sets n y=kD z.sets n z.sets.length)/\y<m+1/\an cxR st ⟨[(0, .own 100000),(2, .d (.str n)),(4, .ptr 4 0),(7, .d (.int .i64 ((y:Int)-1)))],[(100000, .row 79 5 (l.map au) fl),(4, .box ((bo z).map .d))]⟩:=fun hb st hw' =>
    ⟨m,⟨by omega,by rw[<- hgo,if_neg (by simp[hb])]⟩,by omega,by rw[hm1,hw m (by omega)]at hw';exact hw'⟩
   refine ae (fun ht=>?_) (fun ht=>?_) <;> (rw[ht];conv=>whnf)
   . (refine⟨_,_,yz s.set.name n (bP hvs) (bP hn),?_⟩;conv=>whnf)
     refine ae (fun ho=>?_) (fun ho=>?_) <;> (rw[ho];conv=>whnf)
     . have hit:lJ n s=true:=by unfold lJ;rw[ht,ho];rfl
       rw[if_pos hit]at hgo;refine⟨_,gV (cx:=cx) (cx' :=cxR) rfl rfl (mg l fl z s.set.name 8 hl hz),?_⟩
       conv=>whnf
       refine⟨rfl,false,?_⟩;unfold bJ;rw[<- hgo];rfl
     . exact next (by unfold lJ;rw[ht,ho];rfl) _ (an.keep ⟨⟨rfl,rfl⟩,⟨rfl,rfl⟩,⟨rfl,rfl⟩,⟨rfl,rfl⟩,trivial⟩ ⟨⟨rfl,rfl⟩,⟨rfl,rfl⟩,trivial⟩)
   . exact next (by unfold lJ;rw[ht];rfl) _ (an.keep ⟨⟨rfl,rfl⟩,⟨rfl,rfl⟩,⟨rfl,rfl⟩,⟨rfl,rfl⟩,trivial⟩ ⟨⟨rfl,rfl⟩,⟨rfl,rfl⟩,trivial⟩)
 . obtain rfl:k=0:=by simp at h1;omega
   refine⟨rfl,fl,?_⟩;unfold bJ;rw[<- hgo];rfl
end Go.Proofs.YtcecidfnchcagaaGreatDoor
