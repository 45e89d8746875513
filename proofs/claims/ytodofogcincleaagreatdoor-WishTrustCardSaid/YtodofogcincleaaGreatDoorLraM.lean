/-
  One text.
-/
import Derived.Test.YtodofogcincleaaGreatDoorMNh
import Derived.Test.YtodofogcincleaaGreatDoorMVa
set_option linter.all false
set_option maxRecDepth 100000
namespace Go.Proofs.YtodofogcincleaaGreatDoor
open NQ Go.RowKit
theorem wb(x:Bs):∀l:List Bs,l≠[]->dB (l++[x])=dB l++46::x
 |[],h=>absurd rfl h
 |[y],_=>by simp[dB]
 |y::z::t,_=>by
  have:=wb x (z::t) (by simp);rw[List.cons_append,iO _ _ (by simp),this,iO y (z::t) (by simp),List.append_assoc];rfl
theorem yf(m:Nat):∀l:List Bs,(∀x∈l,x.length<=m)->(dB l).length<=l.length*(m+1)
 |[],_=>by simp[dB]
 |[y],h=>by have:=h y (by simp);simp[dB];omega
 |y::z::t,h=>by
  have h1:=h y (by simp);have h2:=yf m (z::t) λx hx=>h x (bC _ hx)
  rw[iO _ _ (by simp),List.length_append,List.length_cons,List.length_cons,Nat.add_mul];omega
theorem NO{l:List Bs}(h:l≠[]):nameOf l=dB l:=by unfold nameOf;rw[if_neg h]
theorem RB{n:Nat}(h1:1<=n)(h2:n<=4611686018427387904):IntKind.i64.wrap ((n:Int)-1)=((n-1:Nat):Int):=by
 rw[wrap_i64 (by omega) (by omega)];omega
theorem Ri{s:Bs}{k:Nat}{c:UInt8}(hk:s[k]? =some c):((s.drop ((k:Nat):Int).toNat).take (((k:Int)+1).toNat-((k:Nat):Int).toNat))=[c]:=by
 have ha:=(aB.1 hk).1;rw[show((k:Nat):Int).toNat=k by simp,show((k:Int)+1).toNat-k=1 by omega,List.drop_eq_getElem_cons ha,(aB.1 hk).2];simp
end Go.Proofs.YtodofogcincleaaGreatDoor
namespace Go.Proofs.YtodofogcincleaaGreatDoor
open NQ Go.RowKit
theorem OW(s:Bs)(hs:s.length<=100000):NQ.Fn cx 53 [.str s] (.d (.slice 1 ((ba s).map ck))) []:=by
 refine eR (λ_=>[]) bo mixed Tryz.func53 ?_;conv=>whnf
 refine⟨Nat,λk=>⟨[(0,.d (.str s)),(3,.own 5),(4,.d (.int .i64 k))],[(5,.row 9 1 ((ba (s.take k)).map ck))]⟩,λk=>k<=s.length,λk=>s.length-k,
  ⟨0,by omega,aK.keep ⟨ae,ae,ae,trivial⟩ ⟨ae,trivial⟩⟩,λk hk=>?_⟩
 conv=>whnf
 refine aj (λh1=>?_) (λh1=>?_) <;> (rw[h1];conv=>whnf)
 .have ha:k<s.length:=by simp at h1;omega
  obtain⟨c,hc⟩:∃c,s[k]? =some c:=⟨_,au ha⟩
  have hlen:=rf (s.take k);rw[List.length_take]at hlen;have ho:=iE (s.take k);have hp:1<=(ba (s.take k)).length:=by cases hx:ba (s.take k)with|nil=>exact absurd hx ho|cons=>simp
  refine⟨aC k,c,by simpa using hc,?_⟩;conv=>whnf
  refine aj (λhd=>?_) (λhd=>?_) <;> (rw[hd];conv=>whnf)
  .have hb:c=46:=UInt8.toNat_inj.1 (by simp at hd;exact Int.ofNat_inj.1 hd);refine⟨by(show((ba (s.take k)).map ck).length+1<=_;rw[aA];omega),by(show(((ba (s.take k)).map ck).length+1)*16<=_;rw[aA];omega),?_⟩;conv=>whnf
   refine⟨k+1,ha,by(show s.length-(k+1)<s.length-k;omega),aK.keep ⟨ae,ae,⟨ax (by omega),rfl⟩,trivial⟩ ⟨⟨?_,rfl⟩,trivial⟩⟩;rw[bO hc,hb,wI,List.map_append];show some (Blk.row _ _ (_++_))=_
   rfl
  .have hb:c≠46:=λe=>by subst e;simp at hd
   obtain⟨p,x,hg,hi⟩:=tA (s.take k) c hb;rw[<- bO hc]at hi;have hl:(ba (s.take k)).length=p.length+1:=by rw[hg];simp
   have hw:IntKind.i64.wrap ((((ba (s.take k)).map ck).length:Int)-1)=((p.length:Nat):Int):=by
    rw[aA,hl,RB (by omega) (by omega)];rfl
   have ht:x.length<=s.length:=by
    have:=mz (s.take k) x (by rw[hg];simp);rw[List.length_take]at this;omega
   have hf:((ba (s.take k)).map ck)[p.length]? =some (ck x):=by rw[hg];simp
   (refine bV ?_;conv=>whnf)
   rw[hw];refine⟨aC _,by(rw[aA,hl];simp),?_⟩;conv=>whnf
   refine⟨ck x,hf,?_⟩;conv=>whnf
   rw[wrap_i64 (n:=(k:Int)+1) (by omega) (by omega)];refine⟨aC _,by omega,by omega,?_⟩;conv=>whnf
   rw[Ri hc];refine⟨by simp;omega,?_⟩;conv=>whnf
   refine⟨aC _,by(rw[aA,hl];simp),?_⟩;conv=>whnf
   refine⟨ck x,hf,?_⟩;conv=>whnf
   refine⟨k+1,ha,by(show s.length-(k+1)<s.length-k;omega),aK.keep ⟨ae,ae,⟨ax (by omega),rfl⟩,trivial⟩ ⟨⟨?_,rfl⟩,trivial⟩⟩;rw[hi];have e:((ba (s.take k)).map ck).set p.length (ck (x++[c]))=(p++[x++[c]]).map ck:=by
    rw[hg,List.map_append,List.set_append_right _ _ (by simp),aA,Nat.sub_self,List.map_append];rfl
   rw[<- e];rfl
 .obtain rfl:k=s.length:=by simp at h1;omega
  refine al rfl ?_;rw[List.take_length];rfl
theorem OT(s:Bs)(hs:s.length<=100000):NQ.Fn cx 49 [.str s] (.d (.slice 1 ((cF s).map ck))) []:=by
 refine aT bo mixed Tryz.func49 ?_;conv=>whnf
 (refine aj (λh=>?_) (λh=>?_) <;> (rw[h];conv=>whnf))
 .have e:s=[46]:=by simpa using h
  refine al rfl ?_;unfold cF;rw[if_pos e];rfl
 .have e:s≠[46]:=by simpa using h
  (refine⟨_,_,OW s hs,?_⟩;conv=>whnf)
  refine al rfl ?_;unfold cF;rw[if_neg e];rfl
theorem Sf(l:List Bs)(hl:l.length<=1000)(hs:∀x∈l,x.length<=100000):NQ.Fn cx 48 [.slice 1 (l.map ck)] (.d (.str (nameOf l))) []:=by
 refine aT bo mixed Tryz.func48 ?_;conv=>whnf
 (refine aj (λh=>?_) (λh=>?_) <;> (rw[h];conv=>whnf))
 .have e:l=[]:=by cases l with|nil=>rfl|cons x t=>(simp at h;omega)
  subst e;exact al rfl rfl
 .have e:l≠[]:=λe=>by subst e;simp at h
  obtain⟨x0,t,rfl⟩:∃x t,l=x::t:=by cases l with|nil=>exact absurd rfl e|cons x t=>exact⟨x,t,rfl⟩
  refine⟨by decide,ck x0,rfl,?_⟩;conv=>whnf
  refine⟨Nat,λk=>⟨[(0,.d (.slice 1 ((x0::t).map ck))),(3,.d (.str (dB ((x0::t).take k)))),(4,.d (.int .i64 k))],[]⟩,λk=>1<=k/\k<=(x0::t).length,λk=>(x0::t).length-k,
   ⟨1,⟨by omega,by simp⟩,aK.keep ⟨ae,ae,ae,trivial⟩ trivial⟩,λk ⟨hr,hk⟩=>?_⟩
  conv=>whnf
  refine aj (λh1=>?_) (λh1=>?_) <;> (rw[h1];conv=>whnf)
  .have ha:k<(x0::t).length:=by simp at h1 ⊢;omega
   obtain⟨c,hc⟩:∃c,(x0::t)[k]? =some c:=⟨_,au ha⟩
   have hq:=hs c (aD hc);have hh:=yf 100000 ((x0::t).take k) λx hx=>hs x (List.mem_of_mem_take hx)
   rw[List.length_take]at hh;have hj:(dB ((x0::t).take k)).length<=1000*(100000+1):=Nat.le_trans hh (Nat.mul_le_mul_right _ (Nat.le_trans (Nat.min_le_right _ _) hl));refine⟨by(show(dB ((x0::t).take k)).length+1<=_;omega),?_⟩;conv=>whnf
   refine⟨aC k,ck c,aM hc,?_⟩;conv=>whnf
   refine⟨by(show(dB ((x0::t).take k)++[46]).length+c.length<=_;simp;omega),?_⟩;conv=>whnf
   refine⟨k+1,⟨by omega,ha⟩,by(show(x0::t).length-(k+1)<(x0::t).length-k;omega),aK.keep ⟨ae,⟨?_,rfl⟩,⟨ax (by omega),rfl⟩,trivial⟩ trivial⟩;rw[bO hc,wb c _ (by cases k with|zero=>omega|succ k=>simp)];show AV.d (D.str ((_++[46])++c))=_
   simp
  .have hn:k=(x0::t).length:=by simp at h1 hk ⊢;omega
   refine al rfl ?_;rw[hn,List.take_length,NO (by simp)];rfl
end Go.Proofs.YtodofogcincleaaGreatDoor
