/-
  One text.
-/
import Derived.Test.YtjapjahfllomkaaGreatDoorLraM
import Derived.Test.YtjapjahfllomkaaGreatDoorMCa
set_option linter.all false
set_option maxRecDepth 100000
namespace NP
open NQ Go
def bf(l:List Signed)(z:az)(q:aQ):List Signed :=
 if decide (atI z.sets q<0)=true then l else if bR l q=true then l else l++(match z.sets[(atI z.sets q).toNat]? with|some s=>[s]|none=>[])
def mC(n:Bs)(s:Signed):Bool:=(s.set.type==8)&&decide (aH s.set.name n<=0)
def lD(l:List Signed)(n:Bs):Nat->Option Signed
 |0=>none
 |k+1=>match l[k]? with|some s=>if mC n s=true then some s else lD l n k|none=>lD l n k
def bI(l:List Signed)(z:az)(n:Bs):List Signed:=match lD z.sets n z.sets.length with|some s=>bf l z ⟨s.set.name,8⟩|none=>l
def im(z:az)(n:Bs):Bool:=z.sets.any λs=>s.set.name==n
def cT(z:az)(n:Bs):Bool:=z.sets.any λs=>aF s.set.name n
def w6(z:az):Nat->Bs->Bs
 |0,n=>n
 |f+1,n=>if cT z n=true then n else w6 z f (bu n)
def c8(z:az)(n:Bs):Bs:=w6 z ((aT n).length+1) n
theorem jk(l:List Signed)(z:az)(q:aQ):(bf l z q).length<=l.length+1:=by
 unfold bf;split
 . omega
 . split
   . omega
   . rw[List.length_append];split <;> simp
theorem AT{s:Bs}(h:ao s=true)(x:Bs)(hx:x∈aT s):x.length<=60:=by
 unfold aT at hx;split at hx
 . cases hx
 . exact Nat.le_trans (lu s x hx) (bz h)
theorem Ca{l:List Signed}{p:Signed->Bool}{k:Nat}{s:Signed}(hk:l[k]? =some s)(h:(l.take k).any p=false):(l.take (k+1)).any p=p s:=by
 rw[aV hk,List.any_append,h];simp
theorem Fw{l:List Signed}{p:Signed->Bool}{k:Nat}{s:Signed}(hk:l[k]? =some s)(h:p s=true):l.any p=true:=List.any_eq_true.2 ⟨s,ar hk,h⟩
end NP
namespace Go.Proofs.YtjapjahfllomkaaGreatDoor
open NQ Go NP Go.RowKit
noncomputable def cxR:Cx:={cx with chg:=λg=>match Nat.beq g 144 with|true=>1|false=>(match Nat.beq g 145 with|true=>1|false=>cx.chg g)}
theorem tyR:bq cxR:=aP
theorem Dk:cxR.P.follows .mixedOrders=true:=mixed
theorem ng(l:List Signed)(fl:Bool)(z:az)(n:Bs)(t:Int)(hl:l.length<=100000)(hz:z.sets.length<=100000) :
 FnR cx 144 true 74 5 (l.map an) fl [.agg (aM z),.str n,.int .i64 t] ((bf l z ⟨n,t⟩).map an):=by
 refine sJ (λ_=>[]) aP mixed Tryz.func144 (by kernel_rfl) rfl (ai rfl) ?_;conv=>whnf
 (refine⟨_,_,vu z ⟨n,t⟩ hz,?_⟩;conv=>whnf)
 refine ae (λhneg=>?_) (λhneg=>?_) <;> (rw[hneg];conv=>whnf)
 . refine⟨rfl,fl,?_⟩;unfold bf;rw[if_pos hneg];rfl
 refine ⟨Nat, fun k => ⟨[(0, .own 100000), (2, .d (.str n)), (3, .d (.int .i64 t)), (5, .ptr 5 0), (9, .d (.int .i64 (atI z.sets ⟨n, t⟩))), (10, .d (.int .i64 k))],
     [(100000,.row 74 5 (l.map an) fl),(5,.box ((aM z).map .d))]⟩,λk=>k<=l.length/\(l.take k).any (is ⟨n,t⟩)=false,λk=>l.length-k,
  ⟨0,⟨by omega,by simp⟩,ag.keep ⟨ab,ab,ab,ab,ab,ab,trivial⟩ ⟨ab,ab,trivial⟩⟩,λk ⟨hk,hno⟩=>?_⟩
 conv=>whnf
 refine ae (λh1=>?_) (λh1=>?_) <;> (rw[h1];conv=>whnf)
 . have hlt:k<l.length:=by simp at h1;omega
   obtain⟨s,hs⟩:∃s,l[k]? =some s:=⟨_,ah hlt⟩
   have hst:=Ca hs hno
   have next : is ⟨n, t⟩ s = false -> ∀ st, ag cx st ⟨[(0, .own 100000), (2, .d (.str n)), (3, .d (.int .i64 t)), (5, .ptr 5 0), (9, .d (.int .i64 (atI z.sets ⟨n, t⟩))), (10, .d (.int .i64 ((k + 1 : Nat) : Int)))], [(100000, .row 74 5 (l.map an) fl), (5, .box ((aM z).map .d))]⟩ ->
       ∃y:Nat,(y<=l.length/\(l.take y).any (is ⟨n,t⟩)=false)/\l.length-y<l.length-k/\ag cx st ⟨[(0,.own 100000),(2,.d (.str n)),(3,.d (.int .i64 t)),(5,.ptr 5 0),(9,.d (.int .i64 (atI z.sets ⟨n,t⟩))),(10,.d (.int .i64 y))],[(100000,.row 74 5 (l.map an) fl),(5,.box ((aM z).map .d))]⟩:=λhb st hw =>
    ⟨k+1,⟨hlt,by rw[hst,hb]⟩,by omega,hw⟩
   refine⟨au k,by(rw[aj];simpa using hlt),?_⟩
   conv=>whnf
   refine⟨an s,by(rw[aL];show Option.map an l[((k:Nat):Int).toNat]? =_;rw[show((k:Nat):Int).toNat=k by simp,hs];rfl),?_⟩
   conv=>whnf
   refine ae (λhn=>?_) (λhn=>?_) <;> (rw[hn];conv=>whnf)
   . refine⟨au k,by(rw[aj];simpa using hlt),?_⟩
     conv=>whnf
     refine⟨an s,by(rw[aL];show Option.map an l[((k:Nat):Int).toNat]? =_;rw[show((k:Nat):Int).toNat=k by simp,hs];rfl),?_⟩
     conv=>whnf
     refine ae (λht=>?_) (λht=>?_) <;> (rw[ht];conv=>whnf)
     . refine⟨rfl,fl,?_⟩;have:bR l ⟨n,t⟩=true:=Fw hs (by unfold is;rw[hn,ht];rfl);unfold bf;rw[if_neg (by simp[hneg]),if_pos this];rfl
     . exact next (by unfold is;rw[hn,ht];rfl) _ (ag.keep ⟨ab,ab,ab,ab,ab,⟨ak (by omega),rfl⟩,trivial⟩ ⟨ab,ab,trivial⟩)
   . exact next (by unfold is;rw[hn];rfl) _ (ag.keep ⟨ab,ab,ab,ab,ab,⟨ak (by omega),rfl⟩,trivial⟩ ⟨ab,ab,trivial⟩)
 . obtain rfl:k=l.length:=by simp at h1;omega
   rw[List.take_length]at hno;have hno' :bR l ⟨n,t⟩=false:=hno;have h0:0<=atI z.sets ⟨n,t⟩:=by simpa using hneg
   have hlt:atI z.sets ⟨n,t⟩<z.sets.length:=by
    unfold atI;split
    . rename_i k hk;have:=(List.findIdx?_eq_some_iff_getElem.1 hk).1;omega
    . omega
   obtain⟨s,hs⟩:∃s,z.sets[(atI z.sets ⟨n,t⟩).toNat]? =some s:=⟨_,ah (by omega)⟩
   refine⟨h0,an s,by(rw[aL,hs];rfl),?_⟩
   conv=>whnf
   refine⟨by(show(l.map an).length+1<=_;rw[aj];omega),by(show((l.map an).length+1)*80<=_;rw[aj];omega),?_⟩
   conv=>whnf
   refine⟨rfl,false,?_⟩;unfold bf;rw[if_neg (by simp[hneg]),if_neg (by simp[hno']),hs,List.map_append];show some (Blk.row _ _ (_++_))=_
   rfl
theorem sE(z:az)(n:Bs)(hz:z.sets.length<=100000)(hv:∀s∈z.sets,ao s.set.name=true)(hn:ao n=true):NQ.Fn cx 146 [.agg (aM z),.str n] (.d (.bool (cT z n))) []:=by
 refine aB aP mixed Tryz.func146 (by kernel_rfl) rfl (ai rfl) ?_;conv=>whnf
 refine⟨Nat,λk=>⟨[(1,.d (.str n)),(2,.ptr 2 0),(5,.d (.int .i64 k))],[(2,.box ((aM z).map .d))]⟩,λk=>k<=z.sets.length/\(z.sets.take k).any (λs=>aF s.set.name n)=false,λk=>z.sets.length-k,
  ⟨0,⟨by omega,by simp⟩,ag.keep ⟨ab,ab,ab,trivial⟩ ⟨ab,trivial⟩⟩,λk ⟨hk,hno⟩=>?_⟩
 conv=>whnf
 refine ae (λh1=>?_) (λh1=>?_) <;> (rw[h1];conv=>whnf)
 . have hlt:k<z.sets.length:=by simp at h1;omega
   obtain⟨s,hs⟩:∃s,z.sets[k]? =some s:=⟨_,ah hlt⟩
   have hst:=Ca hs hno;refine⟨au k,an s,aA hs,?_⟩
   conv=>whnf
   (refine⟨_,_,lH s.set.name n (bz (hv s (ar hs))) (bz hn),?_⟩;conv=>whnf)
   refine ae (λhu=>?_) (λhu=>?_) <;> (rw[hu];conv=>whnf)
   . refine af rfl ?_;rw[show cT z n=true from Fw (p:=λs=>aF s.set.name n) hs hu];rfl
   . exact⟨k+1,⟨hlt,by rw[hst,hu]⟩,by(show z.sets.length-(k+1)<z.sets.length-k;omega),ag.keep ⟨ab,ab,⟨ak (by omega),rfl⟩,trivial⟩ ⟨ab,trivial⟩⟩
 . obtain rfl:k=z.sets.length:=by simp at h1;omega
   refine af rfl ?_;rw[List.take_length]at hno;rw[show cT z n=false from hno];rfl
theorem GB(z:az)(n:Bs)(hz:z.sets.length<=100000)(hv:∀s∈z.sets,ao s.set.name=true)(hn:ao n=true)(hu:aF n z.apex=true)(hex:cT z z.apex=true):NQ.Fn cx 148 [.agg (aM z),.str n] (.d (.str (c8 z n))) []:=by
 refine aB aP mixed Tryz.func148 (by kernel_rfl) rfl (ai rfl) ?_;conv=>whnf
 refine⟨Bs,λm=>⟨[(1,.d (.str m)),(2,.ptr 2 0)],[(2,.box ((aM z).map .d))]⟩,λm=>ao m=true/\aF m z.apex=true/\w6 z ((aT m).length+1) m=c8 z n,λm=>(aT m).length,
  ⟨n,⟨hn,hu,rfl⟩,ag.keep ⟨ab,ab,trivial⟩ ⟨ab,trivial⟩⟩,λm ⟨hm,hum,hgo⟩=>?_⟩
 conv=>whnf
 (refine⟨_,_,sE z m hz hv hm,?_⟩;conv=>whnf)
 rw[w6]at hgo;refine ae (λhe=>?_) (λhe=>?_) <;> (rw[he];conv=>whnf)
 . have he:cT z m=false:=by simpa using he
   have hne:m≠z.apex:=λe=>by subst e;rw[hex]at he;cases he
   obtain⟨k1,k2,k3⟩:=iP hm hum hne;rw[if_neg (by simp[he]), <- k3]at hgo;have hl8:=zM hm
   (refine⟨_,_,sh m (by have:=bz hm;omega),?_⟩;conv=>whnf)
   have hlen:1<=(aT m).length:=by omega
   refine⟨by decide,by(show(1:Int)<=((aT m).map aJ).length;rw[aj];omega),by(show(((aT m).map aJ).length:Int)<=((aT m).map aJ).length;omega),?_⟩
   conv=>whnf
   have e:(((aT m).map aJ).drop (1:Int).toNat).take ((((aT m).map aJ).length:Int).toNat-(1:Int).toNat)=((aT m).tail).map aJ:=by
    rw[List.take_of_length_le (by simp),List.map_tail, <- List.drop_one];rfl
   rw[e]
   (refine⟨_,_,Fv (aT m).tail (by simp;omega) (λx hx=>by have:=AT hm x (List.mem_of_mem_tail hx);omega),?_⟩;conv=>whnf)
   exact⟨bu m,⟨dR hm,k2,hgo⟩,by(show(aT (bu m)).length<(aT m).length;omega),ag.keep ⟨ab,ab,trivial⟩ ⟨ab,trivial⟩⟩
 . have he:cT z m=true:=by simpa using he
   rw[if_pos he]at hgo;refine af rfl ?_;rw[hgo];rfl
theorem Ft(n:Bs)(hn:ao n=true):NQ.Fn cx 147 [.str n] (.tuple [.d (.str (cw ([42]::aT n)).1),.d (.bool ((cw ([42]::aT n)).2==0))]) []:=by
 refine aB aP mixed Tryz.func147 (by kernel_rfl) rfl (ai rfl) ?_;conv=>whnf
 have hl8:=zM hn
 (refine⟨_,_,sh n (by have:=bz hn;omega),?_⟩;conv=>whnf)
 refine⟨by(show 1+((aT n).map aJ).length<=_;rw[aj];omega),by(show(1+((aT n).map aJ).length)*16<=_;rw[aj];omega),?_⟩
 conv=>whnf
 have hj:=KU ([42]::aT n) (by simp;omega) (λx hx=>by
  rcases List.mem_cons.1 hx with rfl|hx
  . decide
  . have:=AT hn x hx;omega)
 refine⟨_,hj,rfl,?_⟩
 conv=>whnf
 exact af rfl rfl
theorem oh(l:List Signed)(fl:Bool)(z:az)(n:Bs)(hl:l.length<=100000)(hz:z.sets.length<=100000)(hv:∀s∈z.sets,ao s.set.name=true)(hn:ao n=true) :
 FnR cx 145 true 74 5 (l.map an) fl [.agg (aM z),.str n] ((bI l z n).map an):=by
 refine ja (cx:=cxR) (cx' :=cx) rfl rfl ?_;refine sJ (λ_=>[]) tyR Dk Tryz.func145 (by kernel_rfl) rfl (ai rfl) ?_
 conv=>whnf
 have hw:∀m:Nat,m<=100000->IntKind.i64.wrap (((m:Nat):Int)-1)=((m:Nat):Int)-1:=λm hm=>wrap_i64 (by omega) (by omega)
 refine⟨Nat,λk=>⟨[(0,.own 100000),(2,.d (.str n)),(4,.ptr 4 0),(7,.d (.int .i64 ((k:Int)-1)))],[(100000,.row 74 5 (l.map an) fl),(4,.box ((aM z).map .d))]⟩,
  λk=>k<=z.sets.length/\lD z.sets n k=lD z.sets n z.sets.length,λk=>k,
  ⟨z.sets.length,⟨by omega,rfl⟩,ag.keep ⟨ab,ab,ab,⟨?_,rfl⟩,trivial⟩ ⟨ab,ab,trivial⟩⟩,λk ⟨hk,hgo⟩=>?_⟩
 . show AV.d (D.int .i64 (IntKind.i64.wrap (((z.sets.map an).length:Int)-1)))=_
   rw[aj,hw _ hz]
 conv=>whnf
 refine ae (λh1=>?_) (λh1=>?_) <;> (rw[h1];conv=>whnf)
 . obtain⟨m,rfl⟩:∃m,k=m+1:=⟨k-1,by simp at h1;omega⟩
   have hm1:(((m+1:Nat):Int)-1)=(m:Int):=by omega
   obtain⟨s,hs⟩:∃s,z.sets[m]? =some s:=⟨_,ah (by omega)⟩
   have hvs:=hv s (ar hs);rw[lD,hs]at hgo;simp only at hgo;refine⟨by omega,an s,by(rw[hm1];exact aA hs),?_⟩
   conv=>whnf
   have next : mC n s = false -> ∀ st, ag cxR st ⟨[(0, .own 100000), (2, .d (.str n)), (4, .ptr 4 0), (7, .d (.int .i64 (IntKind.i64.wrap (((m + 1 : Nat) : Int) - 1 - 1))))], [(100000, .row 74 5 (l.map an) fl), (4, .box ((aM z).map .d))]⟩ ->
       ∃y:Nat,(y<=z.sets.length/\lD z.sets n y=lD z.sets n z.sets.length)/\y<m+1/\ag cxR st ⟨[(0,.own 100000),(2,.d (.str n)),(4,.ptr 4 0),(7,.d (.int .i64 ((y:Int)-1)))],[(100000,.row 74 5 (l.map an) fl),(4,.box ((aM z).map .d))]⟩:=λhb st hw' =>
    ⟨m,⟨by omega,by rw[<- hgo,if_neg (by simp[hb])]⟩,by omega,by rw[hm1,hw m (by omega)]at hw';exact hw'⟩
   refine ae (λht=>?_) (λht=>?_) <;> (rw[ht];conv=>whnf)
   . (refine⟨_,_,qn s.set.name n (bz hvs) (bz hn),?_⟩;conv=>whnf)
     refine ae (λho=>?_) (λho=>?_) <;> (rw[ho];conv=>whnf)
     . have hit:mC n s=true:=by unfold mC;rw[ht,ho];rfl
       rw[if_pos hit]at hgo;refine⟨_,ja (cx:=cx) (cx' :=cxR) rfl rfl (ng l fl z s.set.name 8 hl hz),?_⟩
       conv=>whnf
       refine⟨rfl,false,?_⟩;unfold bI;rw[<- hgo];rfl
     . exact next (by unfold mC;rw[ht,ho];rfl) _ (ag.keep ⟨ab,ab,ab,ab,trivial⟩ ⟨ab,ab,trivial⟩)
   . exact next (by unfold mC;rw[ht];rfl) _ (ag.keep ⟨ab,ab,ab,ab,trivial⟩ ⟨ab,ab,trivial⟩)
 . obtain rfl:k=0:=by simp at h1;omega
   refine⟨rfl,fl,?_⟩;unfold bI;rw[<- hgo];rfl
end Go.Proofs.YtjapjahfllomkaaGreatDoor
