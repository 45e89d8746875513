/-
  Reference 07 on plain data: Add, Cover, Has, Exists, Closest, Wildcard.
-/
import Derived.Test.YtjapjahfllomkaaGreatDoorAbM
import Derived.Test.YtjapjahfllomkaaGreatDoorLraM
import Derived.Test.YtjapjahfllomkaaGreatDoorMCa
import Derived.Test.YtjapjahfllomkaaGreatDoorMRb
set_option linter.all false
set_option maxRecDepth 100000
namespace NP
open NQ Go
def bo(l:List Signed)(z:aS)(q:bg):List Signed :=
 if decide (atI z.sets q<0)=true then l else if cj l q=true then l else l++(match z.sets[(atI z.sets q).toNat]? with | some s=>[s] | none=>[])
def mh(n:Bs)(s:Signed):Bool:=(s.set.type==8)&&decide (aL s.set.name n<=0)
def k9(l:List Signed)(n:Bs):Nat->Option Signed
 | 0=>none
 | k+1=>match l[k]? with | some s=>if mh n s=true then some s else k9 l n k | none=>k9 l n k
def bK(l:List Signed)(z:aS)(n:Bs):List Signed:=match k9 z.sets n z.sets.length with | some s=>bo l z ⟨s.set.name,8⟩ | none=>l
def hX(z:aS)(n:Bs):Bool:=z.sets.any fun s=>s.set.name==n
def cS(z:aS)(n:Bs):Bool:=z.sets.any fun s=>aM s.set.name n
def vV(z:aS):Nat->Bs->Bs
 | 0,n=>n
 | f+1,n=>if cS z n=true then n else vV z f (cz n)
def cW(z:aS)(n:Bs):Bs:=vV z ((bd n).length+1) n
theorem iX(l:List Signed)(z:aS)(q:bg):(bo l z q).length<=l.length+1:=by
 unfold bo;split
 . omega
 . split
   . omega
   . rw[List.length_append];split <;> simp
theorem zK{s:Bs}(h:an s=true)(x:Bs)(hx:x∈bd s):x.length<=60:=by
 unfold bd at hx;split at hx
 . cases hx
 . exact Nat.le_trans (kV s x hx) (bD h)
theorem A2{l:List Signed}{p:Signed->Bool}{k:Nat}{s:Signed}(hk:l[k]? =some s)(h:(l.take k).any p=false):(l.take (k+1)).any p=p s:=by
 rw[bn hk,List.any_append,h];simp
theorem Er{l:List Signed}{p:Signed->Bool}{k:Nat}{s:Signed}(hk:l[k]? =some s)(h:p s=true):l.any p=true:=List.any_eq_true.2 ⟨s,ar hk,h⟩
end NP
namespace Go.Proofs.YtjapjahfllomkaaGreatDoor
open NQ Go NP Go.RowKit
noncomputable def cxR:Cx:={cx with chg:=fun g=>match Nat.beq g 144 with | true=>1 | false=>(match Nat.beq g 145 with | true=>1 | false=>cx.chg g)}
theorem tyR:bB cxR:=bf
theorem B9:cxR.P.follows .mixedOrders=true:=mixed
theorem mM(l:List Signed)(fl:Bool)(z:aS)(n:Bs)(t:Int)(hl:l.length<=100000)(hz:z.sets.length<=100000) :
 FnR cx 144 true 74 5 (l.map ay) fl [.agg (bq z), .str n, .int .i64 t] ((bo l z ⟨n,t⟩).map ay):=by
 refine xn (fun _=>[]) bf mixed Tryz.func144 (by kernel_rfl) rfl (ai rfl) ?_;conv=>whnf
 (refine⟨_,_,AH z ⟨n,t⟩ hz,?_⟩;conv=>whnf)
 refine ae (fun hneg=>?_) (fun hneg=>?_) <;> (rw[hneg];conv=>whnf)
 . refine⟨rfl,fl,?_⟩;unfold bo;rw[if_pos hneg];rfl
 refine ⟨Nat, fun k => ⟨[(0, .own 100000), (2, .d (.str n)), (3, .d (.int .i64 t)), (5, .ptr 5 0), (9, .d (.int .i64 (atI z.sets ⟨n, t⟩))), (10, .d (.int .i64 k))],
     [(100000, .row 74 5 (l.map ay) fl),(5, .box ((bq z).map .d))]⟩,fun k=>k<=l.length/\(l.take k).any (is ⟨n,t⟩)=false,fun k=>l.length-k,
  ⟨0,⟨by omega,by simp⟩,aj.keep ⟨⟨rfl,rfl⟩,⟨rfl,rfl⟩,⟨rfl,rfl⟩,⟨rfl,rfl⟩,⟨rfl,rfl⟩,⟨rfl,rfl⟩,trivial⟩ ⟨⟨rfl,rfl⟩,⟨rfl,rfl⟩,trivial⟩⟩,fun k ⟨hk,hno⟩=>?_⟩
 conv=>whnf
 refine ae (fun h1=>?_) (fun h1=>?_) <;> (rw[h1];conv=>whnf)
 . have hlt:k<l.length:=by simp at h1;omega
   obtain⟨s,hs⟩:∃s,l[k]? =some s:=⟨_,ah hlt⟩
   have hst:=A2 hs hno
   have next : is ⟨n, t⟩ s = false -> ∀ st, aj cx st ⟨[(0, .own 100000), (2, .d (.str n)), (3, .d (.int .i64 t)), (5, .ptr 5 0), (9, .d (.int .i64 (atI z.sets ⟨n, t⟩))), (10, .d (.int .i64 ((k + 1 : Nat) : Int)))], [(100000, .row 74 5 (l.map ay) fl), (5, .box ((bq z).map .d))]⟩ ->
       ∃y:Nat,(y<=l.length/\(l.take y).any (is ⟨n,t⟩)=false)/\l.length-y<l.length-k/\aj cx st ⟨[(0, .own 100000),(2, .d (.str n)),(3, .d (.int .i64 t)),(5, .ptr 5 0),(9, .d (.int .i64 (atI z.sets ⟨n,t⟩))),(10, .d (.int .i64 y))],[(100000, .row 74 5 (l.map ay) fl),(5, .box ((bq z).map .d))]⟩:=fun hb st hw =>
    ⟨k+1,⟨hlt,by rw[hst,hb]⟩,by omega,hw⟩
   refine⟨az k,by(rw[ao];simpa using hlt),?_⟩
   conv=>whnf
   refine⟨ay s,by(rw[aV];show Option.map ay l[((k:Nat):Int).toNat]? =_;rw[show((k:Nat):Int).toNat=k by simp,hs];rfl),?_⟩
   conv=>whnf
   refine ae (fun hn=>?_) (fun hn=>?_) <;> (rw[hn];conv=>whnf)
   . refine⟨az k,by(rw[ao];simpa using hlt),?_⟩
     conv=>whnf
     refine⟨ay s,by(rw[aV];show Option.map ay l[((k:Nat):Int).toNat]? =_;rw[show((k:Nat):Int).toNat=k by simp,hs];rfl),?_⟩
     conv=>whnf
     refine ae (fun ht=>?_) (fun ht=>?_) <;> (rw[ht];conv=>whnf)
     . refine⟨rfl,fl,?_⟩;have:cj l ⟨n,t⟩=true:=Er hs (by unfold is;rw[hn,ht];rfl);unfold bo;rw[if_neg (by simp[hneg]),if_pos this];rfl
     . exact next (by unfold is;rw[hn,ht];rfl) _ (aj.keep ⟨⟨rfl,rfl⟩,⟨rfl,rfl⟩,⟨rfl,rfl⟩,⟨rfl,rfl⟩,⟨rfl,rfl⟩,⟨aq (by omega),rfl⟩,trivial⟩ ⟨⟨rfl,rfl⟩,⟨rfl,rfl⟩,trivial⟩)
   . exact next (by unfold is;rw[hn];rfl) _ (aj.keep ⟨⟨rfl,rfl⟩,⟨rfl,rfl⟩,⟨rfl,rfl⟩,⟨rfl,rfl⟩,⟨rfl,rfl⟩,⟨aq (by omega),rfl⟩,trivial⟩ ⟨⟨rfl,rfl⟩,⟨rfl,rfl⟩,trivial⟩)
 . obtain rfl:k=l.length:=by simp at h1;omega
   rw[List.take_length]at hno;have hno' :cj l ⟨n,t⟩=false:=hno;have h0:0<=atI z.sets ⟨n,t⟩:=by simpa using hneg
   have hlt:atI z.sets ⟨n,t⟩<z.sets.length:=by
    unfold atI;split
    . rename_i k hk;have:=(List.findIdx?_eq_some_iff_getElem.1 hk).1;omega
    . omega
   obtain⟨s,hs⟩:∃s,z.sets[(atI z.sets ⟨n,t⟩).toNat]? =some s:=⟨_,ah (by omega)⟩
   refine⟨h0,ay s,by(rw[aV,hs];rfl),?_⟩
   conv=>whnf
   refine⟨by(show(l.map ay).length+1<=_;rw[ao];omega),by(show((l.map ay).length+1)*80<=_;rw[ao];omega),?_⟩
   conv=>whnf
   refine⟨rfl,false,?_⟩;unfold bo;rw[if_neg (by simp[hneg]),if_neg (by simp[hno']),hs,List.map_append];show some (Blk.row _ _ (_++_))=_
   rfl
theorem rB(z:aS)(n:Bs)(hz:z.sets.length<=100000)(hv:∀s∈z.sets,an s.set.name=true)(hn:an n=true):NQ.Fn cx 146 [.agg (bq z), .str n] (.d (.bool (cS z n))) []:=by
 refine aP bf mixed Tryz.func146 (by kernel_rfl) rfl (ai rfl) ?_;conv=>whnf
 refine⟨Nat,fun k=>⟨[(1, .d (.str n)),(2, .ptr 2 0),(5, .d (.int .i64 k))],[(2, .box ((bq z).map .d))]⟩,fun k=>k<=z.sets.length/\(z.sets.take k).any (fun s=>aM s.set.name n)=false,fun k=>z.sets.length-k,
  ⟨0,⟨by omega,by simp⟩,aj.keep ⟨⟨rfl,rfl⟩,⟨rfl,rfl⟩,⟨rfl,rfl⟩,trivial⟩ ⟨⟨rfl,rfl⟩,trivial⟩⟩,fun k ⟨hk,hno⟩=>?_⟩
 conv=>whnf
 refine ae (fun h1=>?_) (fun h1=>?_) <;> (rw[h1];conv=>whnf)
 . have hlt:k<z.sets.length:=by simp at h1;omega
   obtain⟨s,hs⟩:∃s,z.sets[k]? =some s:=⟨_,ah hlt⟩
   have hst:=A2 hs hno;refine⟨az k,ay s,aT hs,?_⟩
   conv=>whnf
   (refine⟨_,_,lj s.set.name n (bD (hv s (ar hs))) (bD hn),?_⟩;conv=>whnf)
   refine ae (fun hu=>?_) (fun hu=>?_) <;> (rw[hu];conv=>whnf)
   . refine af rfl ?_;rw[show cS z n=true from Er (p:=fun s=>aM s.set.name n) hs hu];rfl
   . exact⟨k+1,⟨hlt,by rw[hst,hu]⟩,by(show z.sets.length-(k+1)<z.sets.length-k;omega),aj.keep ⟨⟨rfl,rfl⟩,⟨rfl,rfl⟩,⟨aq (by omega),rfl⟩,trivial⟩ ⟨⟨rfl,rfl⟩,trivial⟩⟩
 . obtain rfl:k=z.sets.length:=by simp at h1;omega
   refine af rfl ?_;rw[List.take_length]at hno;rw[show cS z n=false from hno];rfl
theorem FA(z:aS)(n:Bs)(hz:z.sets.length<=100000)(hv:∀s∈z.sets,an s.set.name=true)(hn:an n=true)(hu:aM n z.apex=true)(hex:cS z z.apex=true):NQ.Fn cx 148 [.agg (bq z), .str n] (.d (.str (cW z n))) []:=by
 refine aP bf mixed Tryz.func148 (by kernel_rfl) rfl (ai rfl) ?_;conv=>whnf
 refine⟨Bs,fun m=>⟨[(1, .d (.str m)),(2, .ptr 2 0)],[(2, .box ((bq z).map .d))]⟩,fun m=>an m=true/\aM m z.apex=true/\vV z ((bd m).length+1) m=cW z n,fun m=>(bd m).length,
  ⟨n,⟨hn,hu,rfl⟩,aj.keep ⟨⟨rfl,rfl⟩,⟨rfl,rfl⟩,trivial⟩ ⟨⟨rfl,rfl⟩,trivial⟩⟩,fun m ⟨hm,hum,hgo⟩=>?_⟩
 conv=>whnf
 (refine⟨_,_,rB z m hz hv hm,?_⟩;conv=>whnf)
 rw[vV]at hgo;refine ae (fun he=>?_) (fun he=>?_) <;> (rw[he];conv=>whnf)
 . have he:cS z m=false:=by simpa using he
   have hne:m ≠ z.apex:=fun e=>by subst e;rw[hex]at he;cases he
   obtain⟨k1,k2,k3⟩:=kx hm hum hne;rw[if_neg (by simp[he]), <- k3]at hgo;have hl8:=yE hm
   (refine⟨_,_,rh m (by have:=bD hm;omega),?_⟩;conv=>whnf)
   have hlen:1<=(bd m).length:=by omega
   refine⟨by decide,by(show(1:Int)<=((bd m).map au).length;rw[ao];omega),by(show(((bd m).map au).length:Int)<=((bd m).map au).length;omega),?_⟩
   conv=>whnf
   have e:(((bd m).map au).drop (1:Int).toNat).take ((((bd m).map au).length:Int).toNat-(1:Int).toNat)=((bd m).tail).map au:=by
    rw[List.take_of_length_le (by simp),List.map_tail, <- List.drop_one];rfl
   rw[e]
   (refine⟨_,_,Eo (bd m).tail (by simp;omega) (fun x hx=>by have:=zK hm x (List.mem_of_mem_tail hx);omega),?_⟩;conv=>whnf)
   exact⟨cz m,⟨eV hm,k2,hgo⟩,by(show(bd (cz m)).length<(bd m).length;omega),aj.keep ⟨⟨rfl,rfl⟩,⟨rfl,rfl⟩,trivial⟩ ⟨⟨rfl,rfl⟩,trivial⟩⟩
 . have he:cS z m=true:=by simpa using he
   rw[if_pos he]at hgo;refine af rfl ?_;rw[hgo];rfl
theorem El(n:Bs)(hn:an n=true):NQ.Fn cx 147 [.str n] (.tuple [.d (.str (cC ([42]::bd n)).1), .d (.bool ((cC ([42]::bd n)).2==0))]) []:=by
 refine aP bf mixed Tryz.func147 (by kernel_rfl) rfl (ai rfl) ?_;conv=>whnf
 have hl8:=yE hn
 (refine⟨_,_,rh n (by have:=bD hn;omega),?_⟩;conv=>whnf)
 refine⟨by(show 1+((bd n).map au).length<=_;rw[ao];omega),by(show(1+((bd n).map au).length)*16<=_;rw[ao];omega),?_⟩
 conv=>whnf
 have hj:=JN ([42]::bd n) (by simp;omega) (fun x hx=>by
  rcases List.mem_cons.1 hx with rfl | hx
  . decide
  . have:=zK hn x hx;omega)
 refine⟨_,hj,rfl,?_⟩
 conv=>whnf
 exact af rfl rfl
theorem nJ(l:List Signed)(fl:Bool)(z:aS)(n:Bs)(hl:l.length<=100000)(hz:z.sets.length<=100000)(hv:∀s∈z.sets,an s.set.name=true)(hn:an n=true) :
 FnR cx 145 true 74 5 (l.map ay) fl [.agg (bq z), .str n] ((bK l z n).map ay):=by
 refine iw (cx:=cxR) (cx' :=cx) rfl rfl ?_;refine xn (fun _=>[]) tyR B9 Tryz.func145 (by kernel_rfl) rfl (ai rfl) ?_
 conv=>whnf
 have hw:∀m:Nat,m<=100000->IntKind.i64.wrap (((m:Nat):Int)-1)=((m:Nat):Int)-1:=fun m hm=>wrap_i64 (by omega) (by omega)
 refine⟨Nat,fun k=>⟨[(0, .own 100000),(2, .d (.str n)),(4, .ptr 4 0),(7, .d (.int .i64 ((k:Int)-1)))],[(100000, .row 74 5 (l.map ay) fl),(4, .box ((bq z).map .d))]⟩,
  fun k=>k<=z.sets.length/\k9 z.sets n k=k9 z.sets n z.sets.length,fun k=>k,
  ⟨z.sets.length,⟨by omega,rfl⟩,aj.keep ⟨⟨rfl,rfl⟩,⟨rfl,rfl⟩,⟨rfl,rfl⟩,⟨?_,rfl⟩,trivial⟩ ⟨⟨rfl,rfl⟩,⟨rfl,rfl⟩,trivial⟩⟩,fun k ⟨hk,hgo⟩=>?_⟩
 . show AV.d (D.int .i64 (IntKind.i64.wrap (((z.sets.map ay).length:Int)-1)))=_
   rw[ao,hw _ hz]
 conv=>whnf
 refine ae (fun h1=>?_) (fun h1=>?_) <;> (rw[h1];conv=>whnf)
 . obtain⟨m,rfl⟩:∃m,k=m+1:=⟨k-1,by simp at h1;omega⟩
   have hm1:(((m+1:Nat):Int)-1)=(m:Int):=by omega
   obtain⟨s,hs⟩:∃s,z.sets[m]? =some s:=⟨_,ah (by omega)⟩
   have hvs:=hv s (ar hs);rw[k9,hs]at hgo;simp only at hgo;refine⟨by omega,ay s,by(rw[hm1];exact aT hs),?_⟩
   conv=>whnf
   have next : mh n s = false -> ∀ st, aj cxR st ⟨[(0, .own 100000), (2, .d (.str n)), (4, .ptr 4 0), (7, .d (.int .i64 (IntKind.i64.wrap (((m + 1 : Nat) : Int) - 1 - 1))))], [(100000, .row 74 5 (l.map ay) fl), (4, .box ((bq z).map .d))]⟩ ->
       ∃y:Nat,(y<=z.sets.length/\k9 z.sets n y=k9 z.sets n z.sets.length)/\y<m+1/\aj cxR st ⟨[(0, .own 100000),(2, .d (.str n)),(4, .ptr 4 0),(7, .d (.int .i64 ((y:Int)-1)))],[(100000, .row 74 5 (l.map ay) fl),(4, .box ((bq z).map .d))]⟩:=fun hb st hw' =>
    ⟨m,⟨by omega,by rw[<- hgo,if_neg (by simp[hb])]⟩,by omega,by rw[hm1,hw m (by omega)]at hw';exact hw'⟩
   refine ae (fun ht=>?_) (fun ht=>?_) <;> (rw[ht];conv=>whnf)
   . (refine⟨_,_,px s.set.name n (bD hvs) (bD hn),?_⟩;conv=>whnf)
     refine ae (fun ho=>?_) (fun ho=>?_) <;> (rw[ho];conv=>whnf)
     . have hit:mh n s=true:=by unfold mh;rw[ht,ho];rfl
       rw[if_pos hit]at hgo;refine⟨_,iw (cx:=cx) (cx' :=cxR) rfl rfl (mM l fl z s.set.name 8 hl hz),?_⟩
       conv=>whnf
       refine⟨rfl,false,?_⟩;unfold bK;rw[<- hgo];rfl
     . exact next (by unfold mh;rw[ht,ho];rfl) _ (aj.keep ⟨⟨rfl,rfl⟩,⟨rfl,rfl⟩,⟨rfl,rfl⟩,⟨rfl,rfl⟩,trivial⟩ ⟨⟨rfl,rfl⟩,⟨rfl,rfl⟩,trivial⟩)
   . exact next (by unfold mh;rw[ht];rfl) _ (aj.keep ⟨⟨rfl,rfl⟩,⟨rfl,rfl⟩,⟨rfl,rfl⟩,⟨rfl,rfl⟩,trivial⟩ ⟨⟨rfl,rfl⟩,⟨rfl,rfl⟩,trivial⟩)
 . obtain rfl:k=0:=by simp at h1;omega
   refine⟨rfl,fl,?_⟩;unfold bK;rw[<- hgo];rfl
end Go.Proofs.YtjapjahfllomkaaGreatDoor
