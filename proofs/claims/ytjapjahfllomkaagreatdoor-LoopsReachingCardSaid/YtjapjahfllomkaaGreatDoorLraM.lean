/-
  Reference 01 on plain data: Label, Split, Parts, Glue, Join.
-/
import Derived.Test.YtjapjahfllomkaaGreatDoorAbM
import Derived.Test.YtjapjahfllomkaaGreatDoorMNh
import Derived.Test.YtjapjahfllomkaaGreatDoorMVa
import Derived.Test.YtjapjahfllomkaaGreatDoorMQt
set_option linter.all false
set_option maxRecDepth 100000
namespace NP
open NQ Go
theorem tv(x:Bs):∀l:List Bs,l ≠ []->bR (l++[x])=bR l++46::x
 | [],h=>absurd rfl h
 | [y],_=>by simp[bR]
 | y::z::t,_=>by
  have:=tv x (z::t) (by simp);rw[List.cons_append,eT _ _ (by simp),this,eT y (z::t) (by simp),List.append_assoc];rfl
theorem vh(m:Nat):∀l:List Bs,(∀x∈l,x.length<=m)->(bR l).length<=l.length*(m+1)
 | [],_=>by simp[bR]
 | [y],h=>by have:=h y (by simp);simp[bR];omega
 | y::z::t,h=>by
  have h1:=h y (by simp);have h2:=vh m (z::t) fun x hx=>h x (aW _ hx)
  rw[eT _ _ (by simp),List.length_append,List.length_cons,List.length_cons,Nat.add_mul];omega
theorem IM{l:List Bs}(h:l ≠ []):nameOf l=bR l:=by unfold nameOf;rw[if_neg h]
theorem Mb{n:Nat}(h1:1<=n)(h2:n<=4611686018427387904):IntKind.i64.wrap ((n:Int)-1)=((n-1:Nat):Int):=by
 rw[wrap_i64 (by omega) (by omega)];omega
theorem LO{s:Bs}{k:Nat}{c:UInt8}(hk:s[k]? =some c):((s.drop ((k:Nat):Int).toNat).take (((k:Int)+1).toNat-((k:Nat):Int).toNat))=[c]:=by
 have hlt:=(av.1 hk).1;rw[show((k:Nat):Int).toNat=k by simp,show((k:Int)+1).toNat-k=1 by omega,List.drop_eq_getElem_cons hlt,(av.1 hk).2];simp
end NP
namespace Go.Proofs.YtjapjahfllomkaaGreatDoor
open NQ Go NP Go.RowKit
theorem G4(s:Bs)(hs:s.length<=1000000):NQ.Fn cx 121 [.str s] (.d (.bool (bp s))) []:=by
 refine cN ⟨_,Tryz.func121,by kernel_rfl,by kernel_rfl⟩ rfl fun w vs _ hsz hrep=>?_
 obtain⟨b,hb,rfl⟩:=de (hrep 0 _ rfl);rw[mF hsz,hb];exact(lg b (by have:(S b).length=b.size:=bz b;have hs' :(S b).length<=1000000:=hs;omega) w).mono fun e w' ⟨he,hbel⟩=>⟨_,he,hbel ▸ Below.refl _ _, .dY _⟩
theorem JQ(s:Bs)(hs:s.length<=100000):NQ.Fn cx 120 [.str s] (.d (.slice 1 ((aU s).map au))) []:=by
 refine df (fun _=>[]) bf mixed Tryz.func120 (by kernel_rfl) rfl (ai rfl) ?_
 conv=>whnf
 refine⟨Nat,fun k=>⟨[(0, .d (.str s)),(3, .own 5),(4, .d (.int .i64 k))],[(5, .row 9 1 ((aU (s.take k)).map au))]⟩,fun k=>k<=s.length,fun k=>s.length-k,
  ⟨0,by omega,aj.keep ⟨⟨rfl,rfl⟩,⟨rfl,rfl⟩,⟨rfl,rfl⟩,trivial⟩ ⟨⟨rfl,rfl⟩,trivial⟩⟩,fun k hk=>?_⟩
 conv=>whnf
 refine ae (fun h1=>?_) (fun h1=>?_) <;> (rw[h1];conv=>whnf)
 . have hlt:k<s.length:=by simp at h1;omega
   obtain⟨c,hc⟩:∃c,s[k]? =some c:=⟨_,ah hlt⟩
   have hlen:=gT (s.take k);rw[List.length_take]at hlen;have hne:=eL (s.take k);have hpos:1<=(aU (s.take k)).length:=by cases hx:aU (s.take k)with | nil=>exact absurd hx hne | cons=>simp
   refine⟨az k,c,by simpa using hc,?_⟩
   conv=>whnf
   refine ae (fun hd=>?_) (fun hd=>?_) <;> (rw[hd];conv=>whnf)
   . have hc46:c=46:=UInt8.toNat_inj.1 (by simp at hd;exact Int.ofNat_inj.1 hd);refine⟨by(show((aU (s.take k)).map au).length+1<=_;rw[ao];omega),by(show(((aU (s.take k)).map au).length+1)*16<=_;rw[ao];omega),?_⟩
     conv=>whnf
     refine⟨k+1,hlt,by(show s.length-(k+1)<s.length-k;omega),aj.keep ⟨⟨rfl,rfl⟩,⟨rfl,rfl⟩,⟨aq (by omega),rfl⟩,trivial⟩ ⟨⟨?_,rfl⟩,trivial⟩⟩;rw[bn hc,hc46,tW,List.map_append];show some (Blk.row _ _ (_++_))=_
     rfl
   . have hc46:c ≠ 46:=fun e=>by subst e;simp at hd
     obtain⟨p,x,hp1,hp2⟩:=qT (s.take k) c hc46;rw[<- bn hc]at hp2;have hl:(aU (s.take k)).length=p.length+1:=by rw[hp1];simp
     have hw:IntKind.i64.wrap ((((aU (s.take k)).map au).length:Int)-1)=((p.length:Nat):Int):=by
      rw[ao,hl,Mb (by omega) (by omega)];rfl
     have hxl:x.length<=s.length:=by
      have:=kV (s.take k) x (by rw[hp1];simp);rw[List.length_take]at this;omega
     have hget:((aU (s.take k)).map au)[p.length]? =some (au x):=by rw[hp1];simp
     (refine⟨(by kernel_rfl:bF _ _=true),?_⟩;conv=>whnf)
     rw[hw];refine⟨az _,by(rw[ao,hl];simp),?_⟩
     conv=>whnf
     refine⟨au x,hget,?_⟩
     conv=>whnf
     rw[wrap_i64 (n:=(k:Int)+1) (by omega) (by omega)];refine⟨az _,by omega,by omega,?_⟩
     conv=>whnf
     rw[LO hc];refine⟨by simp;omega,?_⟩
     conv=>whnf
     refine⟨az _,by(rw[ao,hl];simp),?_⟩
     conv=>whnf
     refine⟨au x,hget,?_⟩
     conv=>whnf
     refine⟨k+1,hlt,by(show s.length-(k+1)<s.length-k;omega),aj.keep ⟨⟨rfl,rfl⟩,⟨rfl,rfl⟩,⟨aq (by omega),rfl⟩,trivial⟩ ⟨⟨?_,rfl⟩,trivial⟩⟩;rw[hp2];have e:((aU (s.take k)).map au).set p.length (au (x++[c]))=(p++[x++[c]]).map au:=by
      rw[hp1,List.map_append,List.set_append_right _ _ (by simp),ao,Nat.sub_self,List.map_append];rfl
     rw[<- e];rfl
 . obtain rfl:k=s.length:=by simp at h1;omega
   refine af rfl ?_;rw[List.take_length];rfl
theorem rh(s:Bs)(hs:s.length<=100000):NQ.Fn cx 64 [.str s] (.d (.slice 1 ((bd s).map au))) []:=by
 refine aP bf mixed Tryz.func64 (by kernel_rfl) rfl (ai rfl) ?_;conv=>whnf
 (refine ae (fun h=>?_) (fun h=>?_) <;> (rw[h];conv=>whnf))
 . have e:s=[46]:=by simpa using h
   refine af rfl ?_;unfold bd;rw[if_pos e];rfl
 . have e:s ≠ [46]:=by simpa using h
   (refine⟨_,_,JQ s hs,?_⟩;conv=>whnf)
   refine af rfl ?_;unfold bd;rw[if_neg e];rfl
theorem Eo(l:List Bs)(hl:l.length<=1000)(hs:∀x∈l,x.length<=100000):NQ.Fn cx 211 [.slice 1 (l.map au)] (.d (.str (nameOf l))) []:=by
 refine aP bf mixed Tryz.func211 (by kernel_rfl) rfl (ai rfl) ?_;conv=>whnf
 (refine ae (fun h=>?_) (fun h=>?_) <;> (rw[h];conv=>whnf))
 . have e:l=[]:=by cases l with | nil=>rfl | cons x t=>(simp at h;omega)
   subst e;exact af rfl rfl
 . have e:l ≠ []:=fun e=>by subst e;simp at h
   obtain⟨x0,t,rfl⟩:∃x t,l=x::t:=by cases l with | nil=>exact absurd rfl e | cons x t=>exact⟨x,t,rfl⟩
   refine⟨by decide,au x0,rfl,?_⟩
   conv=>whnf
   refine⟨Nat,fun k=>⟨[(0, .d (.slice 1 ((x0::t).map au))),(3, .d (.str (bR ((x0::t).take k)))),(4, .d (.int .i64 k))],[]⟩,fun k=>1<=k/\k<=(x0::t).length,fun k=>(x0::t).length-k,
    ⟨1,⟨by omega,by simp⟩,aj.keep ⟨⟨rfl,rfl⟩,⟨rfl,rfl⟩,⟨rfl,rfl⟩,trivial⟩ trivial⟩,fun k ⟨hk1,hk⟩=>?_⟩
   conv=>whnf
   refine ae (fun h1=>?_) (fun h1=>?_) <;> (rw[h1];conv=>whnf)
   . have hlt:k<(x0::t).length:=by simp at h1 ⊢;omega
     obtain⟨c,hc⟩:∃c,(x0::t)[k]? =some c:=⟨_,ah hlt⟩
     have hcl:=hs c (ar hc);have hjl:=vh 100000 ((x0::t).take k) fun x hx=>hs x (List.mem_of_mem_take hx)
     rw[List.length_take]at hjl;have hjl2:(bR ((x0::t).take k)).length<=1000*(100000+1):=Nat.le_trans hjl (Nat.mul_le_mul_right _ (Nat.le_trans (Nat.min_le_right _ _) hl));refine⟨by(show(bR ((x0::t).take k)).length+1<=_;omega),?_⟩
     conv=>whnf
     refine⟨az k,au c,aT hc,?_⟩
     conv=>whnf
     refine⟨by(show(bR ((x0::t).take k)++[46]).length+c.length<=_;simp;omega),?_⟩
     conv=>whnf
     refine⟨k+1,⟨by omega,hlt⟩,by(show(x0::t).length-(k+1)<(x0::t).length-k;omega),aj.keep ⟨⟨rfl,rfl⟩,⟨?_,rfl⟩,⟨aq (by omega),rfl⟩,trivial⟩ trivial⟩;rw[bn hc,tv c _ (by cases k with | zero=>omega | succ k=>simp)];show AV.d (D.str ((_++[46])++c))=_
     simp
   . have hkk:k=(x0::t).length:=by simp at h1 hk ⊢;omega
     refine af rfl ?_;rw[hkk,List.take_length,IM (by simp)];rfl
theorem JN(l:List Bs)(hl:l.length<=1000)(hs:∀x∈l,x.length<=100000):NQ.Fn cx 210 [.slice 1 (l.map au)] (.tuple [.d (.str (cC l).1), .d (.int .i64 (cC l).2)]) []:=by
 refine aP bf mixed Tryz.func210 (by kernel_rfl) rfl (ai rfl) ?_;conv=>whnf
 refine⟨Nat,fun k=>⟨[(0, .d (.slice 1 (l.map au))),(4, .d (.int .i64 k))],[]⟩,fun k=>k<=l.length/\r9 l k,fun k=>l.length-k,
  ⟨0,⟨by omega,xS l⟩,aj.keep ⟨⟨rfl,rfl⟩,⟨rfl,rfl⟩,trivial⟩ trivial⟩,fun k ⟨hk,hgood⟩=>?_⟩
 conv=>whnf
 refine ae (fun h1=>?_) (fun h1=>?_) <;> (rw[h1];conv=>whnf)
 . have hlt:k<l.length:=by simp at h1;omega
   obtain⟨c,hc⟩:∃c,l[k]? =some c:=⟨_,ah hlt⟩
   have hcl:=hs c (ar hc);have bad:bp c=false-> ¬(k=0/\c=[42])->cC l=([],11):=fun h2 h3=>by
    unfold cC;rw[yK hc h2 h3,if_neg (by simp)]
   have go:(bp c=true\/(k=0/\c=[42]))-> ∀st,aj cx st ⟨[(0, .d (.slice 1 (l.map au))),(4, .d (.int .i64 ((k+1:Nat):Int)))],[]⟩-> ∃y:Nat,(y<=l.length/\r9 l y)/\l.length-y<l.length-k/\aj cx st ⟨[(0, .d (.slice 1 (l.map au))),(4, .d (.int .i64 y))],[]⟩ :=
    fun hg st hw=>⟨k+1,⟨hlt,sc hgood hc hg⟩,by omega,hw⟩
   refine⟨az k,au c,aT hc,?_⟩
   conv=>whnf
   (refine⟨_,_,G4 c (by omega),?_⟩;conv=>whnf)
   refine ae (fun hlab=>?_) (fun hlab=>?_) <;> (rw[hlab];conv=>whnf)
   . have hlab:bp c=false:=by simpa using hlab
     refine ae (fun hk0=>?_) (fun hk0=>?_) <;> (rw[hk0];conv=>whnf)
     . refine af rfl ?_;rw[bad hlab (fun e=>by rw[e.1]at hk0;simp at hk0)];rfl
     . have hk00:k=0:=by simp at hk0;omega
       refine⟨az k,au c,aT hc,?_⟩
       conv=>whnf
       refine ae (fun hst=>?_) (fun hst=>?_) <;> (rw[hst];conv=>whnf)
       . refine af rfl ?_;rw[bad hlab (fun e=>by rw[e.2]at hst;simp at hst)];rfl
       . exact go (.inr ⟨hk00,by simpa using hst⟩) _ (aj.keep ⟨⟨rfl,rfl⟩,⟨aq (by omega),rfl⟩,trivial⟩ trivial)
   . exact go (.inl (by simpa using hlab)) _ (aj.keep ⟨⟨rfl,rfl⟩,⟨aq (by omega),rfl⟩,trivial⟩ trivial)
 . obtain rfl:k=l.length:=by simp at h1;omega
   have hok:=zR hgood
   (refine⟨_,_,Eo l hl hs,?_⟩;conv=>whnf)
   refine ae (fun h8=>?_) (fun h8=>?_) <;> (rw[h8];conv=>whnf)
   . refine af rfl ?_;have:cC l=([],11):=by
      unfold cC;rw[hok,if_neg];rintro⟨h2,_⟩;simp at h8 h2;omega
     rw[this];rfl
   . refine ae (fun h60=>?_) (fun h60=>?_) <;> (rw[h60];conv=>whnf)
     . refine af rfl ?_;have:cC l=([],11):=by
        unfold cC;rw[hok,if_neg];rintro⟨_,h2⟩;simp at h60 h2;omega
       rw[this];rfl
     . refine af rfl ?_;have:cC l=(nameOf l,0):=by
        unfold cC;rw[hok,if_pos];simp at h8 h60 ⊢;omega
       rw[this];rfl
end Go.Proofs.YtjapjahfllomkaaGreatDoor
