/-
  One text.
-/
import Derived.Test.YtodofogcincleaaGreatDoorMNh
import Derived.Test.YtodofogcincleaaGreatDoorMVa
set_option linter.all false
set_option maxRecDepth 100000
namespace NP
open NQ Go
theorem ui(x:Bs):∀l:List Bs,l≠[]->cL (l++[x])=cL l++46::x
 |[],h=>absurd rfl h
 |[y],_=>by simp[cL]
 |y::z::t,_=>by
  have:=ui x (z::t) (by simp);rw[List.cons_append,gD _ _ (by simp),this,gD y (z::t) (by simp),List.append_assoc];rfl
theorem vZ(m:Nat):∀l:List Bs,(∀x∈l,x.length<=m)->(cL l).length<=l.length*(m+1)
 |[],_=>by simp[cL]
 |[y],h=>by have:=h y (by simp);simp[cL];omega
 |y::z::t,h=>by
  have h1:=h y (by simp);have h2:=vZ m (z::t) λx hx=>h x (bk _ hx)
  rw[gD _ _ (by simp),List.length_append,List.length_cons,List.length_cons,Nat.add_mul];omega
theorem KZ{l:List Bs}(h:l≠[]):nameOf l=cL l:=by unfold nameOf;rw[if_neg h]
theorem OJ{n:Nat}(h1:1<=n)(h2:n<=4611686018427387904):IntKind.i64.wrap ((n:Int)-1)=((n-1:Nat):Int):=by
 rw[wrap_i64 (by omega) (by omega)];omega
theorem Ot{s:Bs}{k:Nat}{c:UInt8}(hk:s[k]? =some c):((s.drop ((k:Nat):Int).toNat).take (((k:Int)+1).toNat-((k:Nat):Int).toNat))=[c]:=by
 have hlt:=(aq.1 hk).1;rw[show((k:Nat):Int).toNat=k by simp,show((k:Int)+1).toNat-k=1 by omega,List.drop_eq_getElem_cons hlt,(aq.1 hk).2];simp
end NP
namespace Go.Proofs.YtodofogcincleaaGreatDoor
open NQ Go NP Go.RowKit
theorem Mg(s:Bs)(hs:s.length<=100000):NQ.Fn cx 53 [.str s] (.d (.slice 1 ((aJ s).map ba))) []:=by
 refine eO (λ_=>[]) aV mixed Tryz.func53 (by kernel_rfl) rfl (ag rfl) ?_
 conv=>whnf
 refine⟨Nat,λk=>⟨[(0,.d (.str s)),(3,.own 5),(4,.d (.int .i64 k))],[(5,.row 9 1 ((aJ (s.take k)).map ba))]⟩,λk=>k<=s.length,λk=>s.length-k,
  ⟨0,by omega,aC.keep ⟨ae,ae,ae,trivial⟩ ⟨ae,trivial⟩⟩,λk hk=>?_⟩
 conv=>whnf
 refine af (λh1=>?_) (λh1=>?_) <;> (rw[h1];conv=>whnf)
 . have hlt:k<s.length:=by simp at h1;omega
   obtain⟨c,hc⟩:∃c,s[k]? =some c:=⟨_,ai hlt⟩
   have hlen:=pJ (s.take k);rw[List.length_take]at hlen;have hne:=gq (s.take k);have hpos:1<=(aJ (s.take k)).length:=by cases hx:aJ (s.take k)with|nil=>exact absurd hx hne|cons=>simp
   refine⟨aw k,c,by simpa using hc,?_⟩
   conv=>whnf
   refine af (λhd=>?_) (λhd=>?_) <;> (rw[hd];conv=>whnf)
   . have hc46:c=46:=UInt8.toNat_inj.1 (by simp at hd;exact Int.ofNat_inj.1 hd);refine⟨by(show((aJ (s.take k)).map ba).length+1<=_;rw[an];omega),by(show(((aJ (s.take k)).map ba).length+1)*16<=_;rw[an];omega),?_⟩
     conv=>whnf
     refine⟨k+1,hlt,by(show s.length-(k+1)<s.length-k;omega),aC.keep ⟨ae,ae,⟨ao (by omega),rfl⟩,trivial⟩ ⟨⟨?_,rfl⟩,trivial⟩⟩;rw[bK hc,hc46,uE,List.map_append];show some (Blk.row _ _ (_++_))=_
     rfl
   . have hc46:c≠46:=λe=>by subst e;simp at hd
     obtain⟨p,x,hp1,hp2⟩:=rO (s.take k) c hc46;rw[<- bK hc]at hp2;have hl:(aJ (s.take k)).length=p.length+1:=by rw[hp1];simp
     have hw:IntKind.i64.wrap ((((aJ (s.take k)).map ba).length:Int)-1)=((p.length:Nat):Int):=by
      rw[an,hl,OJ (by omega) (by omega)];rfl
     have hxl:x.length<=s.length:=by
      have:=kQ (s.take k) x (by rw[hp1];simp);rw[List.length_take]at this;omega
     have hget:((aJ (s.take k)).map ba)[p.length]? =some (ba x):=by rw[hp1];simp
     (refine⟨(by kernel_rfl:bE _ _=true),?_⟩;conv=>whnf)
     rw[hw];refine⟨aw _,by(rw[an,hl];simp),?_⟩
     conv=>whnf
     refine⟨ba x,hget,?_⟩
     conv=>whnf
     rw[wrap_i64 (n:=(k:Int)+1) (by omega) (by omega)];refine⟨aw _,by omega,by omega,?_⟩
     conv=>whnf
     rw[Ot hc];refine⟨by simp;omega,?_⟩
     conv=>whnf
     refine⟨aw _,by(rw[an,hl];simp),?_⟩
     conv=>whnf
     refine⟨ba x,hget,?_⟩
     conv=>whnf
     refine⟨k+1,hlt,by(show s.length-(k+1)<s.length-k;omega),aC.keep ⟨ae,ae,⟨ao (by omega),rfl⟩,trivial⟩ ⟨⟨?_,rfl⟩,trivial⟩⟩;rw[hp2];have e:((aJ (s.take k)).map ba).set p.length (ba (x++[c]))=(p++[x++[c]]).map ba:=by
      rw[hp1,List.map_append,List.set_append_right _ _ (by simp),an,Nat.sub_self,List.map_append];rfl
     rw[<- e];rfl
 . obtain rfl:k=s.length:=by simp at h1;omega
   refine aj rfl ?_;rw[List.take_length];rfl
theorem Md(s:Bs)(hs:s.length<=100000):NQ.Fn cx 49 [.str s] (.d (.slice 1 ((bU s).map ba))) []:=by
 refine aK aV mixed Tryz.func49 (by kernel_rfl) rfl (ag rfl) ?_;conv=>whnf
 (refine af (λh=>?_) (λh=>?_) <;> (rw[h];conv=>whnf))
 . have e:s=[46]:=by simpa using h
   refine aj rfl ?_;unfold bU;rw[if_pos e];rfl
 . have e:s≠[46]:=by simpa using h
   (refine⟨_,_,Mg s hs,?_⟩;conv=>whnf)
   refine aj rfl ?_;unfold bU;rw[if_neg e];rfl
theorem Pp(l:List Bs)(hl:l.length<=1000)(hs:∀x∈l,x.length<=100000):NQ.Fn cx 48 [.slice 1 (l.map ba)] (.d (.str (nameOf l))) []:=by
 refine aK aV mixed Tryz.func48 (by kernel_rfl) rfl (ag rfl) ?_;conv=>whnf
 (refine af (λh=>?_) (λh=>?_) <;> (rw[h];conv=>whnf))
 . have e:l=[]:=by cases l with|nil=>rfl|cons x t=>(simp at h;omega)
   subst e;exact aj rfl rfl
 . have e:l≠[]:=λe=>by subst e;simp at h
   obtain⟨x0,t,rfl⟩:∃x t,l=x::t:=by cases l with|nil=>exact absurd rfl e|cons x t=>exact⟨x,t,rfl⟩
   refine⟨by decide,ba x0,rfl,?_⟩
   conv=>whnf
   refine⟨Nat,λk=>⟨[(0,.d (.slice 1 ((x0::t).map ba))),(3,.d (.str (cL ((x0::t).take k)))),(4,.d (.int .i64 k))],[]⟩,λk=>1<=k/\k<=(x0::t).length,λk=>(x0::t).length-k,
    ⟨1,⟨by omega,by simp⟩,aC.keep ⟨ae,ae,ae,trivial⟩ trivial⟩,λk ⟨hk1,hk⟩=>?_⟩
   conv=>whnf
   refine af (λh1=>?_) (λh1=>?_) <;> (rw[h1];conv=>whnf)
   . have hlt:k<(x0::t).length:=by simp at h1 ⊢;omega
     obtain⟨c,hc⟩:∃c,(x0::t)[k]? =some c:=⟨_,ai hlt⟩
     have hcl:=hs c (au hc);have hjl:=vZ 100000 ((x0::t).take k) λx hx=>hs x (List.mem_of_mem_take hx)
     rw[List.length_take]at hjl;have hjl2:(cL ((x0::t).take k)).length<=1000*(100000+1):=Nat.le_trans hjl (Nat.mul_le_mul_right _ (Nat.le_trans (Nat.min_le_right _ _) hl));refine⟨by(show(cL ((x0::t).take k)).length+1<=_;omega),?_⟩
     conv=>whnf
     refine⟨aw k,ba c,aB hc,?_⟩
     conv=>whnf
     refine⟨by(show(cL ((x0::t).take k)++[46]).length+c.length<=_;simp;omega),?_⟩
     conv=>whnf
     refine⟨k+1,⟨by omega,hlt⟩,by(show(x0::t).length-(k+1)<(x0::t).length-k;omega),aC.keep ⟨ae,⟨?_,rfl⟩,⟨ao (by omega),rfl⟩,trivial⟩ trivial⟩;rw[bK hc,ui c _ (by cases k with|zero=>omega|succ k=>simp)];show AV.d (D.str ((_++[46])++c))=_
     simp
   . have hkk:k=(x0::t).length:=by simp at h1 hk ⊢;omega
     refine aj rfl ?_;rw[hkk,List.take_length,KZ (by simp)];rfl
end Go.Proofs.YtodofogcincleaaGreatDoor
