/-
  One text.
-/
import Derived.Test.YtmaepddmaghpjaaGreatDoorMNh
import Derived.Test.YtmaepddmaghpjaaGreatDoorMVa
set_option linter.all false
set_option maxRecDepth 100000
namespace NP
open NQ Go
theorem PT{n:Nat}(h1:1<=n)(h2:n<=4611686018427387904):IntKind.i64.wrap ((n:Int)-1)=((n-1:Nat):Int):=by
 rw[wrap_i64 (by omega) (by omega)];omega
theorem PB{s:Bs}{k:Nat}{c:UInt8}(hk:s[k]? =some c):((s.drop ((k:Nat):Int).toNat).take (((k:Int)+1).toNat-((k:Nat):Int).toNat))=[c]:=by
 have hlt:=(ar.1 hk).1;rw[show((k:Nat):Int).toNat=k by simp,show((k:Int)+1).toNat-k=1 by omega,List.drop_eq_getElem_cons hlt,(ar.1 hk).2];simp
end NP
namespace Go.Proofs.YtmaepddmaghpjaaGreatDoor
open NQ Go NP Go.RowKit
theorem Ni(s:Bs)(hs:s.length<=100000):NQ.Fn cx 137 [.str s] (.d (.slice 1 ((aH s).map aL))) []:=by
 refine cC (λ_=>[]) aO mixed Tryz.func137 (by kernel_rfl) rfl (ag rfl) ?_
 conv=>whnf
 refine⟨Nat,λk=>⟨[(0,.d (.str s)),(3,.own 5),(4,.d (.int .i64 k))],[(5,.row 9 1 ((aH (s.take k)).map aL))]⟩,λk=>k<=s.length,λk=>s.length-k,
  ⟨0,by omega,aj.keep ⟨ab,ab,ab,trivial⟩ ⟨ab,trivial⟩⟩,λk hk=>?_⟩
 conv=>whnf
 refine ae (λh1=>?_) (λh1=>?_) <;> (rw[h1];conv=>whnf)
 . have hlt:k<s.length:=by simp at h1;omega
   obtain⟨c,hc⟩:∃c,s[k]? =some c:=⟨_,ah hlt⟩
   have hlen:=gY (s.take k);rw[List.length_take]at hlen;have hne:=eS (s.take k);have hpos:1<=(aH (s.take k)).length:=by cases hx:aH (s.take k)with|nil=>exact absurd hx hne|cons=>simp
   refine⟨aw k,c,by simpa using hc,?_⟩
   conv=>whnf
   refine ae (λhd=>?_) (λhd=>?_) <;> (rw[hd];conv=>whnf)
   . have hc46:c=46:=UInt8.toNat_inj.1 (by simp at hd;exact Int.ofNat_inj.1 hd);refine⟨by(show((aH (s.take k)).map aL).length+1<=_;rw[ak];omega),by(show(((aH (s.take k)).map aL).length+1)*16<=_;rw[ak];omega),?_⟩
     conv=>whnf
     refine⟨k+1,hlt,by(show s.length-(k+1)<s.length-k;omega),aj.keep ⟨ab,ab,⟨an (by omega),rfl⟩,trivial⟩ ⟨⟨?_,rfl⟩,trivial⟩⟩;rw[bj hc,hc46,vq,List.map_append];show some (Blk.row _ _ (_++_))=_
     rfl
   . have hc46:c≠46:=λe=>by subst e;simp at hd
     obtain⟨p,x,hp1,hp2⟩:=sd (s.take k) c hc46;rw[<- bj hc]at hp2;have hl:(aH (s.take k)).length=p.length+1:=by rw[hp1];simp
     have hw:IntKind.i64.wrap ((((aH (s.take k)).map aL).length:Int)-1)=((p.length:Nat):Int):=by
      rw[ak,hl,PT (by omega) (by omega)];rfl
     have hxl:x.length<=s.length:=by
      have:=nk (s.take k) x (by rw[hp1];simp);rw[List.length_take]at this;omega
     have hget:((aH (s.take k)).map aL)[p.length]? =some (aL x):=by rw[hp1];simp
     (refine⟨(by kernel_rfl:bg _ _=true),?_⟩;conv=>whnf)
     rw[hw];refine⟨aw _,by(rw[ak,hl];simp),?_⟩
     conv=>whnf
     refine⟨aL x,hget,?_⟩
     conv=>whnf
     rw[wrap_i64 (n:=(k:Int)+1) (by omega) (by omega)];refine⟨aw _,by omega,by omega,?_⟩
     conv=>whnf
     rw[PB hc];refine⟨by simp;omega,?_⟩
     conv=>whnf
     refine⟨aw _,by(rw[ak,hl];simp),?_⟩
     conv=>whnf
     refine⟨aL x,hget,?_⟩
     conv=>whnf
     refine⟨k+1,hlt,by(show s.length-(k+1)<s.length-k;omega),aj.keep ⟨ab,ab,⟨an (by omega),rfl⟩,trivial⟩ ⟨⟨?_,rfl⟩,trivial⟩⟩;rw[hp2];have e:((aH (s.take k)).map aL).set p.length (aL (x++[c]))=(p++[x++[c]]).map aL:=by
      rw[hp1,List.map_append,List.set_append_right _ _ (by simp),ak,Nat.sub_self,List.map_append];rfl
     rw[<- e];rfl
 . obtain rfl:k=s.length:=by simp at h1;omega
   refine af rfl ?_;rw[List.take_length];rfl
theorem CJ(s:Bs)(hs:s.length<=100000):NQ.Fn cx 97 [.str s] (.d (.slice 1 ((bc s).map aL))) []:=by
 refine aA aO mixed Tryz.func97 (by kernel_rfl) rfl (ag rfl) ?_;conv=>whnf
 (refine ae (λh=>?_) (λh=>?_) <;> (rw[h];conv=>whnf))
 . have e:s=[46]:=by simpa using h
   refine af rfl ?_;unfold bc;rw[if_pos e];rfl
 . have e:s≠[46]:=by simpa using h
   (refine⟨_,_,Ni s hs,?_⟩;conv=>whnf)
   refine af rfl ?_;unfold bc;rw[if_neg e];rfl
end Go.Proofs.YtmaepddmaghpjaaGreatDoor
