/-
  One text.
-/
import Derived.Test.YtjapjahfllomkaaGreatDoorMNh
import Derived.Test.YtjapjahfllomkaaGreatDoorMVa
set_option linter.all false
set_option maxRecDepth 100000
namespace NP
open NQ Go
theorem uL(x:Bs):∀l:List Bs,l≠[]->bL (l++[x])=bL l++46::x
 |[],h=>absurd rfl h
 |[y],_=>by simp[bL]
 |y::z::t,_=>by
  have:=uL x (z::t) (by simp);rw[List.cons_append,fo _ _ (by simp),this,fo y (z::t) (by simp),List.append_assoc];rfl
theorem wk(m:Nat):∀l:List Bs,(∀x∈l,x.length<=m)->(bL l).length<=l.length*(m+1)
 |[],_=>by simp[bL]
 |[y],h=>by have:=h y (by simp);simp[bL];omega
 |y::z::t,h=>by
  have h1:=h y (by simp);have h2:=wk m (z::t) λx hx=>h x (aK _ hx)
  rw[fo _ _ (by simp),List.length_append,List.length_cons,List.length_cons,Nat.add_mul];omega
theorem J0{l:List Bs}(h:l≠[]):nameOf l=bL l:=by unfold nameOf;rw[if_neg h]
theorem Nf{n:Nat}(h1:1<=n)(h2:n<=4611686018427387904):IntKind.i64.wrap ((n:Int)-1)=((n-1:Nat):Int):=by
 rw[wrap_i64 (by omega) (by omega)];omega
theorem MV{s:Bs}{k:Nat}{c:UInt8}(hk:s[k]? =some c):((s.drop ((k:Nat):Int).toNat).take (((k:Int)+1).toNat-((k:Nat):Int).toNat))=[c]:=by
 have hlt:=(av.1 hk).1;rw[show((k:Nat):Int).toNat=k by simp,show((k:Int)+1).toNat-k=1 by omega,List.drop_eq_getElem_cons hlt,(av.1 hk).2];simp
end NP
namespace Go.Proofs.YtjapjahfllomkaaGreatDoor
open NQ Go NP Go.RowKit
theorem II(s:Bs)(hs:s.length<=1000000):NQ.Fn cx 121 [.str s] (.d (.bool (bj s))) []:=by
 refine cJ ⟨_,Tryz.func121,by kernel_rfl,by kernel_rfl⟩ rfl λw vs _ hsz hrep=>?_
 obtain⟨b,hb,rfl⟩:=di (hrep 0 _ rfl);rw[pt hsz,hb];exact(lF b (by have:(S b).length=b.size:=bt b;have hs' :(S b).length<=1000000:=hs;omega) w).mono λe w' ⟨he,hbel⟩=>⟨_,he,hbel ▸ Below.refl _ _,.eE _⟩
theorem KX(s:Bs)(hs:s.length<=100000):NQ.Fn cx 120 [.str s] (.d (.slice 1 ((aI s).map aJ))) []:=by
 refine cK (λ_=>[]) aP mixed Tryz.func120 (by kernel_rfl) rfl (ai rfl) ?_
 conv=>whnf
 refine⟨Nat,λk=>⟨[(0,.d (.str s)),(3,.own 5),(4,.d (.int .i64 k))],[(5,.row 9 1 ((aI (s.take k)).map aJ))]⟩,λk=>k<=s.length,λk=>s.length-k,
  ⟨0,by omega,ag.keep ⟨ab,ab,ab,trivial⟩ ⟨ab,trivial⟩⟩,λk hk=>?_⟩
 conv=>whnf
 refine ae (λh1=>?_) (λh1=>?_) <;> (rw[h1];conv=>whnf)
 . have hlt:k<s.length:=by simp at h1;omega
   obtain⟨c,hc⟩:∃c,s[k]? =some c:=⟨_,ah hlt⟩
   have hlen:=ic (s.take k);rw[List.length_take]at hlen;have hne:=fe (s.take k);have hpos:1<=(aI (s.take k)).length:=by cases hx:aI (s.take k)with|nil=>exact absurd hx hne|cons=>simp
   refine⟨au k,c,by simpa using hc,?_⟩
   conv=>whnf
   refine ae (λhd=>?_) (λhd=>?_) <;> (rw[hd];conv=>whnf)
   . have hc46:c=46:=UInt8.toNat_inj.1 (by simp at hd;exact Int.ofNat_inj.1 hd);refine⟨by(show((aI (s.take k)).map aJ).length+1<=_;rw[aj];omega),by(show(((aI (s.take k)).map aJ).length+1)*16<=_;rw[aj];omega),?_⟩
     conv=>whnf
     refine⟨k+1,hlt,by(show s.length-(k+1)<s.length-k;omega),ag.keep ⟨ab,ab,⟨ak (by omega),rfl⟩,trivial⟩ ⟨⟨?_,rfl⟩,trivial⟩⟩;rw[aV hc,hc46,vg,List.map_append];show some (Blk.row _ _ (_++_))=_
     rfl
   . have hc46:c≠46:=λe=>by subst e;simp at hd
     obtain⟨p,x,hp1,hp2⟩:=r7 (s.take k) c hc46;rw[<- aV hc]at hp2;have hl:(aI (s.take k)).length=p.length+1:=by rw[hp1];simp
     have hw:IntKind.i64.wrap ((((aI (s.take k)).map aJ).length:Int)-1)=((p.length:Nat):Int):=by
      rw[aj,hl,Nf (by omega) (by omega)];rfl
     have hxl:x.length<=s.length:=by
      have:=lu (s.take k) x (by rw[hp1];simp);rw[List.length_take]at this;omega
     have hget:((aI (s.take k)).map aJ)[p.length]? =some (aJ x):=by rw[hp1];simp
     (refine⟨(by kernel_rfl:bc _ _=true),?_⟩;conv=>whnf)
     rw[hw];refine⟨au _,by(rw[aj,hl];simp),?_⟩
     conv=>whnf
     refine⟨aJ x,hget,?_⟩
     conv=>whnf
     rw[wrap_i64 (n:=(k:Int)+1) (by omega) (by omega)];refine⟨au _,by omega,by omega,?_⟩
     conv=>whnf
     rw[MV hc];refine⟨by simp;omega,?_⟩
     conv=>whnf
     refine⟨au _,by(rw[aj,hl];simp),?_⟩
     conv=>whnf
     refine⟨aJ x,hget,?_⟩
     conv=>whnf
     refine⟨k+1,hlt,by(show s.length-(k+1)<s.length-k;omega),ag.keep ⟨ab,ab,⟨ak (by omega),rfl⟩,trivial⟩ ⟨⟨?_,rfl⟩,trivial⟩⟩;rw[hp2];have e:((aI (s.take k)).map aJ).set p.length (aJ (x++[c]))=(p++[x++[c]]).map aJ:=by
      rw[hp1,List.map_append,List.set_append_right _ _ (by simp),aj,Nat.sub_self,List.map_append];rfl
     rw[<- e];rfl
 . obtain rfl:k=s.length:=by simp at h1;omega
   refine af rfl ?_;rw[List.take_length];rfl
theorem sh(s:Bs)(hs:s.length<=100000):NQ.Fn cx 64 [.str s] (.d (.slice 1 ((aT s).map aJ))) []:=by
 refine aB aP mixed Tryz.func64 (by kernel_rfl) rfl (ai rfl) ?_;conv=>whnf
 (refine ae (λh=>?_) (λh=>?_) <;> (rw[h];conv=>whnf))
 . have e:s=[46]:=by simpa using h
   refine af rfl ?_;unfold aT;rw[if_pos e];rfl
 . have e:s≠[46]:=by simpa using h
   (refine⟨_,_,KX s hs,?_⟩;conv=>whnf)
   refine af rfl ?_;unfold aT;rw[if_neg e];rfl
theorem Fv(l:List Bs)(hl:l.length<=1000)(hs:∀x∈l,x.length<=100000):NQ.Fn cx 211 [.slice 1 (l.map aJ)] (.d (.str (nameOf l))) []:=by
 refine aB aP mixed Tryz.func211 (by kernel_rfl) rfl (ai rfl) ?_;conv=>whnf
 (refine ae (λh=>?_) (λh=>?_) <;> (rw[h];conv=>whnf))
 . have e:l=[]:=by cases l with|nil=>rfl|cons x t=>(simp at h;omega)
   subst e;exact af rfl rfl
 . have e:l≠[]:=λe=>by subst e;simp at h
   obtain⟨x0,t,rfl⟩:∃x t,l=x::t:=by cases l with|nil=>exact absurd rfl e|cons x t=>exact⟨x,t,rfl⟩
   refine⟨by decide,aJ x0,rfl,?_⟩
   conv=>whnf
   refine⟨Nat,λk=>⟨[(0,.d (.slice 1 ((x0::t).map aJ))),(3,.d (.str (bL ((x0::t).take k)))),(4,.d (.int .i64 k))],[]⟩,λk=>1<=k/\k<=(x0::t).length,λk=>(x0::t).length-k,
    ⟨1,⟨by omega,by simp⟩,ag.keep ⟨ab,ab,ab,trivial⟩ trivial⟩,λk ⟨hk1,hk⟩=>?_⟩
   conv=>whnf
   refine ae (λh1=>?_) (λh1=>?_) <;> (rw[h1];conv=>whnf)
   . have hlt:k<(x0::t).length:=by simp at h1 ⊢;omega
     obtain⟨c,hc⟩:∃c,(x0::t)[k]? =some c:=⟨_,ah hlt⟩
     have hcl:=hs c (ar hc);have hjl:=wk 100000 ((x0::t).take k) λx hx=>hs x (List.mem_of_mem_take hx)
     rw[List.length_take]at hjl;have hjl2:(bL ((x0::t).take k)).length<=1000*(100000+1):=Nat.le_trans hjl (Nat.mul_le_mul_right _ (Nat.le_trans (Nat.min_le_right _ _) hl));refine⟨by(show(bL ((x0::t).take k)).length+1<=_;omega),?_⟩
     conv=>whnf
     refine⟨au k,aJ c,aA hc,?_⟩
     conv=>whnf
     refine⟨by(show(bL ((x0::t).take k)++[46]).length+c.length<=_;simp;omega),?_⟩
     conv=>whnf
     refine⟨k+1,⟨by omega,hlt⟩,by(show(x0::t).length-(k+1)<(x0::t).length-k;omega),ag.keep ⟨ab,⟨?_,rfl⟩,⟨ak (by omega),rfl⟩,trivial⟩ trivial⟩;rw[aV hc,uL c _ (by cases k with|zero=>omega|succ k=>simp)];show AV.d (D.str ((_++[46])++c))=_
     simp
   . have hkk:k=(x0::t).length:=by simp at h1 hk ⊢;omega
     refine af rfl ?_;rw[hkk,List.take_length,J0 (by simp)];rfl
theorem KU(l:List Bs)(hl:l.length<=1000)(hs:∀x∈l,x.length<=100000):NQ.Fn cx 210 [.slice 1 (l.map aJ)] (.tuple [.d (.str (cw l).1),.d (.int .i64 (cw l).2)]) []:=by
 refine aB aP mixed Tryz.func210 (by kernel_rfl) rfl (ai rfl) ?_;conv=>whnf
 refine⟨Nat,λk=>⟨[(0,.d (.slice 1 (l.map aJ))),(4,.d (.int .i64 k))],[]⟩,λk=>k<=l.length/\td l k,λk=>l.length-k,
  ⟨0,⟨by omega,yO l⟩,ag.keep ⟨ab,ab,trivial⟩ trivial⟩,λk ⟨hk,hgood⟩=>?_⟩
 conv=>whnf
 refine ae (λh1=>?_) (λh1=>?_) <;> (rw[h1];conv=>whnf)
 . have hlt:k<l.length:=by simp at h1;omega
   obtain⟨c,hc⟩:∃c,l[k]? =some c:=⟨_,ah hlt⟩
   have hcl:=hs c (ar hc);have bad:bj c=false-> ¬(k=0/\c=[42])->cw l=([],11):=λh2 h3=>by
    unfold cw;rw[zU hc h2 h3,if_neg (by simp)]
   have go:(bj c=true\/(k=0/\c=[42]))-> ∀st,ag cx st ⟨[(0,.d (.slice 1 (l.map aJ))),(4,.d (.int .i64 ((k+1:Nat):Int)))],[]⟩-> ∃y:Nat,(y<=l.length/\td l y)/\l.length-y<l.length-k/\ag cx st ⟨[(0,.d (.slice 1 (l.map aJ))),(4,.d (.int .i64 y))],[]⟩ :=
    λhg st hw=>⟨k+1,⟨hlt,tg hgood hc hg⟩,by omega,hw⟩
   refine⟨au k,aJ c,aA hc,?_⟩
   conv=>whnf
   (refine⟨_,_,II c (by omega),?_⟩;conv=>whnf)
   refine ae (λhlab=>?_) (λhlab=>?_) <;> (rw[hlab];conv=>whnf)
   . have hlab:bj c=false:=by simpa using hlab
     refine ae (λhk0=>?_) (λhk0=>?_) <;> (rw[hk0];conv=>whnf)
     . refine af rfl ?_;rw[bad hlab (λe=>by rw[e.1]at hk0;simp at hk0)];rfl
     . have hk00:k=0:=by simp at hk0;omega
       refine⟨au k,aJ c,aA hc,?_⟩
       conv=>whnf
       refine ae (λhst=>?_) (λhst=>?_) <;> (rw[hst];conv=>whnf)
       . refine af rfl ?_;rw[bad hlab (λe=>by rw[e.2]at hst;simp at hst)];rfl
       . exact go (.inr ⟨hk00,by simpa using hst⟩) _ (ag.keep ⟨ab,⟨ak (by omega),rfl⟩,trivial⟩ trivial)
   . exact go (.inl (by simpa using hlab)) _ (ag.keep ⟨ab,⟨ak (by omega),rfl⟩,trivial⟩ trivial)
 . obtain rfl:k=l.length:=by simp at h1;omega
   have hok:=A0 hgood
   (refine⟨_,_,Fv l hl hs,?_⟩;conv=>whnf)
   refine ae (λh8=>?_) (λh8=>?_) <;> (rw[h8];conv=>whnf)
   . refine af rfl ?_;have:cw l=([],11):=by
      unfold cw;rw[hok,if_neg];rintro⟨h2,_⟩;simp at h8 h2;omega
     rw[this];rfl
   . refine ae (λh60=>?_) (λh60=>?_) <;> (rw[h60];conv=>whnf)
     . refine af rfl ?_;have:cw l=([],11):=by
        unfold cw;rw[hok,if_neg];rintro⟨_,h2⟩;simp at h60 h2;omega
       rw[this];rfl
     . refine af rfl ?_;have:cw l=(nameOf l,0):=by
        unfold cw;rw[hok,if_pos];simp at h8 h60 ⊢;omega
       rw[this];rfl
end Go.Proofs.YtjapjahfllomkaaGreatDoor
