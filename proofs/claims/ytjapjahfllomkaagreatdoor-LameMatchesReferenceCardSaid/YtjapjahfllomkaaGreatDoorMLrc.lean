/-
  Merged texts.
-/
import Derived.Test.YtjapjahfllomkaaGreatDoorLrbM
import Derived.Test.YtjapjahfllomkaaGreatDoorMLcv
set_option linter.all false
set_option maxRecDepth 100000
namespace NP
open NQ Go
def rR(l:List Signed):List Datum:=match l[0]? with|some s=>s.set.data|none=>[]
def jy(z:az)(cut:Bs)(l:List Signed)(h:List Datum):List Signed:=h.foldl (λl d=>if aF d.text cut=true then bf l z ⟨d.text,1⟩else l) l
def rl0(z:az)(cut:Bs):List Signed:=bf [] z ⟨cut,2⟩
def rl1(z:az)(cut:Bs):List Signed:=bf (rl0 z cut) z ⟨cut,6⟩
def rl2(z:az)(cut:Bs):List Signed:=if (((rl1 z cut).length:Int)==((rl0 z cut).length:Int))=true then bf (rl1 z cut) z ⟨cut,8⟩else rl1 z cut
def ln(z:az)(cut:Bs):Ans:=⟨4,jy z cut (rl2 z cut) (rR (rl0 z cut)),cut⟩
theorem yN(z:az)(cut:Bs)(l:List Signed)(h:List Datum)(d:Datum):jy z cut l (h++[d])=if aF d.text cut=true then bf (jy z cut l h) z ⟨d.text,1⟩else jy z cut l h:=by
 unfold jy;rw[List.foldl_append];rfl
theorem u6(z:az)(cut:Bs):∀(h:List Datum) (l:List Signed),(jy z cut l h).length<=l.length+h.length
 |[],l=>by simp[jy]
 |d::h,l=>by
  have e:jy z cut l (d::h)=jy z cut (if aF d.text cut=true then bf l z ⟨d.text,1⟩else l) h:=rfl;rw[e];have:=u6 z cut h (if aF d.text cut=true then bf l z ⟨d.text,1⟩else l);have h2:=jk l z ⟨d.text,1⟩;rw[List.length_cons];split at this <;> rename_i hc <;> simp only[hc,if_true,if_false,cr] <;> omega
theorem A8{s:gG}(h:dL s=true)(ht:s.type=2):∀d∈s.data,ao d.text=true:=λd hd=>by
 unfold dL at h;simp only[aC,ax,List.mem_range]at h;obtain⟨i,hi⟩:=cE hd;have hlt:=(av.1 hi).1;have:=h.2 i hlt;obtain⟨p,hp⟩:∃p,s.data[i-1]? =some p:=⟨_,ah (by omega)⟩
 rw[sC hi hp,ht]at this;have hr:eH 2=⟨1,0,0,0,0,false,false,false⟩:=rfl;rw[hr]at this;simp only[mD,dZ,jh,Bool.not_eq_true',Bool.or_eq_false_iff,Bool.not_eq_false',aC,if_true]at this;exact this.1.2.1
theorem F9{z:az}(ho:Ordered z)(hf:fh z=true):∀s∈z.sets,s.set.data.length<=900/\(s.set.type=2-> ∀d∈s.set.data,ao d.text=true):=λs hs =>
 ⟨by have:=((cS hf).2 s hs).1;omega,λht=>A8 (ho.set s hs) ht⟩
theorem uh{z:az}{n:Bs}(ho:Ordered z)(h:bo z n≠[]):ao (bo z n)=true/\bR z.sets ⟨bo z n,2⟩=true:=by
 unfold bo at h ⊢;cases hf:(cB z.apex z.sets).find? λc=>aF n c with
 |none=>rw[hf]at h;exact absurd rfl h
 |some c =>
  have hm:=List.mem_of_find?_eq_some hf;obtain⟨_,_,h3,_,h5⟩:=Je ho hm;exact⟨h3,h5⟩
theorem sL{z:az}{q:aQ}(h:bR z.sets q=true):cT z q.name=true:=by
 obtain⟨s,hs,hp⟩:=nv.1 h;have:s.set.name=q.name:=congrArg Prod.fst hp;exact List.any_eq_true.2 ⟨s,hs,by rw[this];exact gN _⟩
theorem GG(l:List Signed)(z:az)(n:Bs):(bI l z n).length<=l.length+1:=by
 unfold bI;split
 . exact jk _ _ _
 . omega
theorem tB{z:az}{n:Bs}(hn:ao n=true):ao (c8 z n)=true:=by
 unfold c8;generalize (aT n).length+1=f;induction f generalizing n with
 |zero=>exact hn
 |succ f ih =>
  rw[w6];split
  . exact hn
  . exact ih (dR hn)
theorem Jf{c:Bs}(h:(!(c==[]))=true):c≠[]:=by intro e;rw[e]at h;cases h
theorem wU{z:az}{q:aQ}(h:bR z.sets q=true):∃s,s∈z.sets/\s.place=q.place/\bf [] z q=[s]:=by
 obtain⟨k,s,h1,h2,h3⟩:=nJ h;refine⟨s,ar h2,h3,?_⟩;unfold bf;rw[h1,if_neg (by simp),if_neg (by simp[bR])];simp[h2]
theorem IL{z:az}{q:aQ}(h:bR z.sets q=false):bf [] z q=[]:=by
 unfold bf;rw[iX,h];rfl
def fW(q:aQ):Bool:=q.type==6||q.type==8
def lW(z:az)(q:aQ):Ans×Int :=
 if (!aW z|| !bx q)=true then(jm,1)else if (!aF q.name z.apex)=true then(⟨7,[],[]⟩,0)
 else if (!(bo z q.name==[])&&(!(bo z q.name==q.name)|| !fW q))=true then(ln z (bo z q.name),0)
 else if decide (((bf [] z q).length:Int)>0)=true then(⟨1,bf [] z q,[]⟩,0)
 else if (decide (((bf [] z ⟨q.name,3⟩).length:Int)>0)&&(q.type != 8))=true then(⟨3,bf [] z ⟨q.name,3⟩,[]⟩,0)
 else if cT z q.name=true then(⟨5,bI (bf [] z ⟨z.apex,4⟩) z q.name,[]⟩,0)
 else if (!((cw ([42]::aT (c8 z q.name))).2==0))=true then(⟨6,bI (bf [] z ⟨z.apex,4⟩) z q.name,[]⟩,0)
 else let w:=(cw ([42]::aT (c8 z q.name))).1
 if decide (((bf [] z ⟨w,q.type⟩).length:Int)>0)=true then(⟨2,bI (bf [] z ⟨w,q.type⟩) z q.name,[]⟩,0)
 else if (decide (((bf [] z ⟨w,3⟩).length:Int)>0)&&(q.type != 8))=true then(⟨3,bI (bf [] z ⟨w,3⟩) z q.name,[]⟩,0)
 else if cT z w=true then(⟨5,bI (bI (bf [] z ⟨z.apex,4⟩) z q.name) z w,[]⟩,0)
 else(⟨6,bI (bI (bf [] z ⟨z.apex,4⟩) z q.name) z w,[]⟩,0)
end NP
namespace Go.Proofs.YtjapjahfllomkaaGreatDoor
open NQ Go NP Go.RowKit
theorem Kh(z:az)(cut:Bs)(hz:z.sets.length<=10000)(hc:ao cut=true)(hcut:bR z.sets ⟨cut,2⟩=true)(hd:∀s∈z.sets,s.set.data.length<=900/\(s.set.type=2-> ∀d∈s.set.data,ao d.text=true)) :
 NQ.Fn cx 143 [.agg (aM z),.str cut] (.agg ((ee (ln z cut)).map .d)) []:=by
 show NQ.Fn cxR _ _ _ _
 refine cK (fun|11=>[66666]|_=>[]) tyR Dk Tryz.func143 (by kernel_rfl) rfl (ai rfl) ?_
 conv=>whnf
 have addK:∀(l:List Signed) (fl:Bool) (n:Bs) (t:Int),l.length<=100000->FnR cxR 144 true 74 5 (l.map an) fl [.agg (aM z),.str n,.int .i64 t] ((bf l z ⟨n,t⟩).map an):=λl fl n t hl=>ja (cx:=cx) (cx' :=cxR) rfl rfl (ng l fl z n t hl (by omega))
 obtain⟨s0,hs0,hp0,e0⟩:=wU hcut;have hr0:rl0 z cut=[s0]:=e0;have hdat:=(hd s0 hs0).1;have hdn:=(hd s0 hs0).2 (by have:=congrArg Prod.snd hp0;exact this);refine⟨_,addK [] false cut 2 (by simp),?_⟩
 conv=>whnf
 rw[e0];refine⟨by decide,by simp,?_⟩
 conv=>whnf
 refine⟨_,rfl,?_⟩
 conv=>whnf
 refine⟨_,addK [s0] _ cut 6 (by simp),?_⟩
 conv=>whnf
 have hr1:rl1 z cut=bf [s0] z ⟨cut,6⟩:=by unfold rl1;rw[hr0]
 have hl1:=jk [s0] z ⟨cut,6⟩;have hl2:=jk (bf [s0] z ⟨cut,6⟩) z ⟨cut,8⟩;have hlist:(((bf [s0] z ⟨cut,6⟩).map an).length:Int)=((rl1 z cut).length:Int):=by rw[aj,hr1]
 have hlist0:(([s0].map an).length:Int)=((rl0 z cut).length:Int):=by rw[aj,hr0]
 rw[hlist,hlist0];have hho:rR (rl0 z cut)=s0.set.data:=by unfold rR;rw[hr0];rfl
 have h2len:(rl2 z cut).length<=3:=by
  unfold rl2;rw[hr1];have h1' :[s0].length=1:=rfl;split <;> omega
 refine ae (λheq=>?_) (λheq=>?_) <;> (rw[heq];conv=>whnf)
 . have hr2:rl2 z cut=bf (bf [s0] z ⟨cut,6⟩) z ⟨cut,8⟩:=by unfold rl2;rw[if_pos heq,hr1]
   refine⟨_,addK (bf [s0] z ⟨cut,6⟩) _ cut 8 (by simp at hl1;omega),?_⟩
   conv=>whnf
   (refine⟨Nat,λk=>⟨[(1,.d (.str cut)),(2,.ptr 2 0),(4,.ptr 4 0),(5,.own 11),(6,.d (.slice 3 (s0.set.data.map bd))),(8,.d (.int .i64 k))],[(2,.box ((aM z).map .d)),(4,.box [.d (.int .i64 0),.nil 5,.d (.str [])]),(11,.row 74 5 ((jy z cut (rl2 z cut) (s0.set.data.take k)).map an))]⟩,λk=>k<=s0.set.data.length,λk=>s0.set.data.length-k,⟨0,by omega,ag.keep ⟨ab,ab,ab,ab,ab,ab,trivial⟩ ⟨ab,ab,⟨by(rw[hr2];rfl),rfl⟩,trivial⟩⟩,λk hk=>?_⟩;(conv=>whnf);refine ae (λh1=>?_) (λh1=>?_) <;> (rw[h1];conv=>whnf))
   . have hlt:k<s0.set.data.length:=by simp at h1;omega
     obtain⟨d,hdk⟩:∃d,s0.set.data[k]? =some d:=⟨_,ah hlt⟩
     have hdv:=hdn d (ar hdk);have hsn:=yN z cut (rl2 z cut) (s0.set.data.take k) d;rw[<- aV hdk]at hsn;have hrl:=u6 z cut (s0.set.data.take k) (rl2 z cut);rw[List.length_take]at hrl;refine⟨au k,bd d,aA hdk,?_⟩
     conv=>whnf
     (refine⟨_,_,lH d.text cut (bz hdv) (bz hc),?_⟩;conv=>whnf)
     refine ae (λhu=>?_) (λhu=>?_) <;> (rw[hu];conv=>whnf)
     . rw[if_pos hu]at hsn
       (refine⟨(by kernel_rfl:gV _=true),?_⟩;conv=>whnf)
       refine⟨au k,bd d,aA hdk,?_⟩
       conv=>whnf
       refine⟨_,addK _ _ d.text 1 (by omega),?_⟩
       conv=>whnf
       (repeat (refine⟨by kernel_rfl,?_⟩));conv=>whnf
       exact⟨k+1,hlt,by(show s0.set.data.length-(k+1)<s0.set.data.length-k;omega),ag.keep ⟨ab,ab,ab,ab,ab,⟨ak (by omega),rfl⟩,trivial⟩ ⟨ab,ab,⟨by(rw[hsn];rfl),rfl⟩,trivial⟩⟩
     . rw[if_neg (by simp[hu])]at hsn;exact⟨k+1,hlt,by(show s0.set.data.length-(k+1)<s0.set.data.length-k;omega),ag.keep ⟨ab,ab,ab,ab,ab,⟨ak (by omega),rfl⟩,trivial⟩ ⟨ab,ab,⟨by(rw[hsn];rfl),rfl⟩,trivial⟩⟩
   . obtain rfl:k=s0.set.data.length:=by simp at h1;omega
     refine af rfl ?_;unfold ln;rw[hho,List.take_length];rfl
 . have hr2:rl2 z cut=bf [s0] z ⟨cut,6⟩:=by unfold rl2;rw[if_neg (by simp[heq]),hr1]
   (refine⟨Nat,λk=>⟨[(1,.d (.str cut)),(2,.ptr 2 0),(4,.ptr 4 0),(5,.own 11),(6,.d (.slice 3 (s0.set.data.map bd))),(8,.d (.int .i64 k))],[(2,.box ((aM z).map .d)),(4,.box [.d (.int .i64 0),.nil 5,.d (.str [])]),(11,.row 74 5 ((jy z cut (rl2 z cut) (s0.set.data.take k)).map an))]⟩,λk=>k<=s0.set.data.length,λk=>s0.set.data.length-k,⟨0,by omega,ag.keep ⟨ab,ab,ab,ab,ab,ab,trivial⟩ ⟨ab,ab,⟨by(rw[hr2];rfl),rfl⟩,trivial⟩⟩,λk hk=>?_⟩;(conv=>whnf);refine ae (λh1=>?_) (λh1=>?_) <;> (rw[h1];conv=>whnf))
   . have hlt:k<s0.set.data.length:=by simp at h1;omega
     obtain⟨d,hdk⟩:∃d,s0.set.data[k]? =some d:=⟨_,ah hlt⟩
     have hdv:=hdn d (ar hdk);have hsn:=yN z cut (rl2 z cut) (s0.set.data.take k) d;rw[<- aV hdk]at hsn;have hrl:=u6 z cut (s0.set.data.take k) (rl2 z cut);rw[List.length_take]at hrl;refine⟨au k,bd d,aA hdk,?_⟩
     conv=>whnf
     (refine⟨_,_,lH d.text cut (bz hdv) (bz hc),?_⟩;conv=>whnf)
     refine ae (λhu=>?_) (λhu=>?_) <;> (rw[hu];conv=>whnf)
     . rw[if_pos hu]at hsn
       (refine⟨(by kernel_rfl:gV _=true),?_⟩;conv=>whnf)
       refine⟨au k,bd d,aA hdk,?_⟩
       conv=>whnf
       refine⟨_,addK _ _ d.text 1 (by omega),?_⟩
       conv=>whnf
       (repeat (refine⟨by kernel_rfl,?_⟩));conv=>whnf
       exact⟨k+1,hlt,by(show s0.set.data.length-(k+1)<s0.set.data.length-k;omega),ag.keep ⟨ab,ab,ab,ab,ab,⟨ak (by omega),rfl⟩,trivial⟩ ⟨ab,ab,⟨by(rw[hsn];rfl),rfl⟩,trivial⟩⟩
     . rw[if_neg (by simp[hu])]at hsn;exact⟨k+1,hlt,by(show s0.set.data.length-(k+1)<s0.set.data.length-k;omega),ag.keep ⟨ab,ab,ab,ab,ab,⟨ak (by omega),rfl⟩,trivial⟩ ⟨ab,ab,⟨by(rw[hsn];rfl),rfl⟩,trivial⟩⟩
   . obtain rfl:k=s0.set.data.length:=by simp at h1;omega
     refine af rfl ?_;unfold ln;rw[hho,List.take_length];rfl
def fzR:Nat->List Nat
 |11=>[55555]
 |14=>[55555]
 |17=>[66666,55555]
 |18=>[55555]
 |20=>[55555]
 |23=>[55555]
 |26=>[55555]
 |29=>[55555]
 |_=>[]
def stR(z:az)(q:aQ):St:=⟨[(2,.ptr 2 0),(3,.ptr 3 0),(4,.ptr 4 0)],[(2,.box ((aM z).map .d)),(3,.box ((cL q).map .d)),(4,.box [.d (.int .i64 0),.nil 5,.d (.str [])])]⟩
def DU(z:az)(q:aQ)(w:Bs)(proof:List Signed):St:=⟨[(2,.ptr 2 0),(3,.ptr 3 0),(4,.ptr 4 0),(11,.own 87),(12,.d (.str w))],[(2,.box ((aM z).map .d)),(3,.box ((cL q).map .d)),(4,.box [.d (.int .i64 0),.nil 5,.d (.str [])]),(87,.row 74 5 (proof.map an))]⟩
def PS(z:az)(q:aQ)(proof:List Signed):St:=⟨[(2,.ptr 2 0),(3,.ptr 3 0),(4,.ptr 4 0),(11,.own 87)],[(2,.box ((aM z).map .d)),(3,.box ((cL q).map .d)),(4,.box [.d (.int .i64 0),.nil 5,.d (.str [])]),(87,.row 74 5 (proof.map an))]⟩
theorem tI(z:az)(q:aQ)(hf:fh z=true)(hv:aW z=true)(hq:bx q=true)(w:Bs)(hwv:ao w=true)(proof:List Signed)(hpl:proof.length<=1000)(r:Ans×Int)(hr:(if cT z w=true then((⟨5,bI proof z w,[]⟩:Ans),(0:Int))else(⟨6,bI proof z w,[]⟩,0))=r)(st:St)(hw:ag cxR st (DU z q w proof)) :
 vc cxR Tryz.f78.ntmps fzR (tu 20 ((Tryz.f78.body).getD .skip)) (fnQ cxR Tryz.f78.results.toList (.tuple [.agg ((ee r.1).map .d),.d (.int .i64 r.2)]) []) st:=by
 obtain⟨f1,f2⟩:=cS hf;have hz5:z.sets.length<=100000:=by omega
 have addK:∀(l:List Signed) (fl:Bool) (n:Bs) (t:Int),l.length<=100000->FnR cxR 144 true 74 5 (l.map an) fl [.agg (aM z),.str n,.int .i64 t] ((bf l z ⟨n,t⟩).map an):=λl fl n t hl=>ja (cx:=cx) (cx' :=cxR) rfl rfl (ng l fl z n t hl hz5)
 have lenE:∀n t,(((bf [] z ⟨n,t⟩).map an).length:Int)=((bf [] z ⟨n,t⟩).length:Int):=λn t=>by rw[aj]
 have len1:∀n t,(bf [] z ⟨n,t⟩).length<=100:=λn t=>by have:=jk [] z ⟨n,t⟩;simp at this;omega
 have ho:=bB hv;have hqn:ao q.name=true:=by unfold bx at hq;simp only[aC]at hq;exact hq.1.1
 have covK:∀(l:List Signed) (fl:Bool) (n:Bs),l.length<=100000->ao n=true->FnR cxR 145 true 74 5 (l.map an) fl [.agg (aM z),.str n] ((bI l z n).map an):=λl fl n hl hn=>ja (cx:=cx) (cx' :=cxR) rfl rfl (oh l fl z n hl hz5 ho.name hn)
 conv=>whnf
 refine⟨DU z q w proof,hw,?_⟩
 conv=>whnf
 refine⟨_,covK proof _ w (by omega) hwv,?_⟩
 conv=>whnf
 (refine⟨_,_,sE z w hz5 ho.name hwv,?_⟩;conv=>whnf)
 refine ae (λhew=>?_) (λhew=>?_) <;> (rw[hew];conv=>whnf)
 . rw[if_pos hew]at hr;subst hr;exact af rfl rfl
 . rw[if_neg (by rw[hew];simp)]at hr;subst hr;exact af rfl rfl
theorem BG(z : az)(q : aQ)(hf : fh z = true)(hv : aW z = true)(hq : bx q = true)(w : Bs)(hwv : ao w = true)(proof : List Signed)(hpl : proof.length <= 1000)(r : Ans × Int)(hr : (if decide (((bf [] z ⟨w, q.type⟩).length : Int) > 0) = true then ((⟨2, bI (bf [] z ⟨w, q.type⟩) z q.name, []⟩ : Ans), (0 : Int))
      else if (decide (((bf [] z ⟨w,3⟩).length:Int)>0)&&(q.type != 8))=true then(⟨3,bI (bf [] z ⟨w,3⟩) z q.name,[]⟩,0)
      else if cT z w=true then(⟨5,bI proof z w,[]⟩,0)else(⟨6,bI proof z w,[]⟩,0))=r) (st:St) (hw:ag cxR st (DU z q w proof)) :
 vc cxR Tryz.f78.ntmps fzR (tu 16 ((Tryz.f78.body).getD .skip)) (fnQ cxR Tryz.f78.results.toList (.tuple [.agg ((ee r.1).map .d),.d (.int .i64 r.2)]) []) st:=by
 obtain⟨f1,f2⟩:=cS hf;have hz5:z.sets.length<=100000:=by omega
 have addK:∀(l:List Signed) (fl:Bool) (n:Bs) (t:Int),l.length<=100000->FnR cxR 144 true 74 5 (l.map an) fl [.agg (aM z),.str n,.int .i64 t] ((bf l z ⟨n,t⟩).map an):=λl fl n t hl=>ja (cx:=cx) (cx' :=cxR) rfl rfl (ng l fl z n t hl hz5)
 have lenE:∀n t,(((bf [] z ⟨n,t⟩).map an).length:Int)=((bf [] z ⟨n,t⟩).length:Int):=λn t=>by rw[aj]
 have len1:∀n t,(bf [] z ⟨n,t⟩).length<=100:=λn t=>by have:=jk [] z ⟨n,t⟩;simp at this;omega
 have ho:=bB hv;have hqn:ao q.name=true:=by unfold bx at hq;simp only[aC]at hq;exact hq.1.1
 have covK:∀(l:List Signed) (fl:Bool) (n:Bs),l.length<=100000->ao n=true->FnR cxR 145 true 74 5 (l.map an) fl [.agg (aM z),.str n] ((bI l z n).map an):=λl fl n hl hn=>ja (cx:=cx) (cx' :=cxR) rfl rfl (oh l fl z n hl hz5 ho.name hn)
 conv=>whnf
 refine⟨DU z q w proof,hw,?_⟩
 conv=>whnf
 refine⟨_,addK [] false w q.type (by simp),?_⟩
 conv=>whnf
 rw[lenE];refine ae (λhdw=>?_) (λhdw=>?_) <;> (rw[hdw];conv=>whnf)
 . rw[if_pos hdw]at hr;subst hr;refine⟨_,covK (bf [] z ⟨w,q.type⟩) _ q.name (by have:=len1 w q.type;omega) hqn,?_⟩
   conv=>whnf
   exact af rfl rfl
 rw[if_neg (by rw[hdw];simp)]at hr;refine⟨DU z q w proof,ag.keep ⟨ab,ab,ab,ab,ab,trivial⟩ ⟨ab,ab,ab,ab,trivial⟩,?_⟩
 conv=>whnf
 refine⟨_,addK [] false w 3 (by simp),?_⟩
 conv=>whnf
 rw[lenE];refine ae (λhaw=>?_) (λhaw=>?_) <;> (rw[haw];conv=>whnf)
 . refine ae (λh8w=>?_) (λh8w=>?_) <;> (rw[h8w];conv=>whnf)
   . rw[if_pos (by rw[haw,h8w];rfl)]at hr;subst hr;refine⟨_,covK (bf [] z ⟨w,3⟩) _ q.name (by have:=len1 w 3;omega) hqn,?_⟩
     conv=>whnf
     exact af rfl rfl
   . rw[if_neg (by rw[haw,h8w];simp)]at hr;exact tI z q hf hv hq w hwv proof hpl r hr _ (ag.keep ⟨ab,ab,ab,ab,ab,trivial⟩ ⟨ab,ab,ab,ab,trivial⟩)
 . rw[if_neg (by rw[haw];simp)]at hr;exact tI z q hf hv hq w hwv proof hpl r hr _ (ag.keep ⟨ab,ab,ab,ab,ab,trivial⟩ ⟨ab,ab,ab,ab,trivial⟩)
set_option maxHeartbeats 1000000 in
theorem tG(z : az)(q : aQ)(hf : fh z = true)(hv : aW z = true)(hq : bx q = true)(hu : aF q.name z.apex = true)(r : Ans × Int)(hr : (if cT z q.name = true then ((⟨5, bI (bf [] z ⟨z.apex, 4⟩) z q.name, []⟩ : Ans), (0 : Int))
      else if (!((cw ([42]::aT (c8 z q.name))).2==0))=true then(⟨6,bI (bf [] z ⟨z.apex,4⟩) z q.name,[]⟩,0)
      else let w:=(cw ([42]::aT (c8 z q.name))).1
      if decide (((bf [] z ⟨w,q.type⟩).length:Int)>0)=true then(⟨2,bI (bf [] z ⟨w,q.type⟩) z q.name,[]⟩,0)
      else if (decide (((bf [] z ⟨w,3⟩).length:Int)>0)&&(q.type != 8))=true then(⟨3,bI (bf [] z ⟨w,3⟩) z q.name,[]⟩,0)
      else if cT z w=true then(⟨5,bI (bI (bf [] z ⟨z.apex,4⟩) z q.name) z w,[]⟩,0)
      else(⟨6,bI (bI (bf [] z ⟨z.apex,4⟩) z q.name) z w,[]⟩,0))=r) (st:St) (hw:ag cxR st (stR z q)) :
 vc cxR Tryz.f78.ntmps fzR (tu 12 ((Tryz.f78.body).getD .skip)) (fnQ cxR Tryz.f78.results.toList (.tuple [.agg ((ee r.1).map .d),.d (.int .i64 r.2)]) []) st:=by
 obtain⟨f1,f2⟩:=cS hf;have hz5:z.sets.length<=100000:=by omega
 have addK:∀(l:List Signed) (fl:Bool) (n:Bs) (t:Int),l.length<=100000->FnR cxR 144 true 74 5 (l.map an) fl [.agg (aM z),.str n,.int .i64 t] ((bf l z ⟨n,t⟩).map an):=λl fl n t hl=>ja (cx:=cx) (cx' :=cxR) rfl rfl (ng l fl z n t hl hz5)
 have lenE:∀n t,(((bf [] z ⟨n,t⟩).map an).length:Int)=((bf [] z ⟨n,t⟩).length:Int):=λn t=>by rw[aj]
 have len1:∀n t,(bf [] z ⟨n,t⟩).length<=100:=λn t=>by have:=jk [] z ⟨n,t⟩;simp at this;omega
 have ho:=bB hv;have hqn:ao q.name=true:=by unfold bx at hq;simp only[aC]at hq;exact hq.1.1
 have covK:∀(l:List Signed) (fl:Bool) (n:Bs),l.length<=100000->ao n=true->FnR cxR 145 true 74 5 (l.map an) fl [.agg (aM z),.str n] ((bI l z n).map an):=λl fl n hl hn=>ja (cx:=cx) (cx' :=cxR) rfl rfl (oh l fl z n hl hz5 ho.name hn)
 have hval:=dw.1 hv;have hex:cT z z.apex=true:=sL hval.start;have hcl:ao (c8 z q.name)=true:=tB hqn
 conv=>whnf
 refine⟨stR z q,hw,?_⟩
 conv=>whnf
 (refine⟨(by kernel_rfl:gV _=true),?_⟩;conv=>whnf)
 refine⟨_,addK [] false z.apex 4 (by simp),?_⟩
 conv=>whnf
 (repeat (refine⟨by kernel_rfl,?_⟩));conv=>whnf
 refine⟨_,covK (bf [] z ⟨z.apex,4⟩) _ q.name (by have:=len1 z.apex 4;omega) hqn,?_⟩
 conv=>whnf
 (repeat (refine⟨by kernel_rfl,?_⟩));conv=>whnf
 refine⟨PS z q (bI (bf [] z ⟨z.apex,4⟩) z q.name),ag.keep ⟨ab,ab,ab,ab,trivial⟩ ⟨ab,ab,ab,ab,trivial⟩,?_⟩
 conv=>whnf
 (refine⟨_,_,sE z q.name hz5 ho.name hqn,?_⟩;conv=>whnf)
 refine ae (λhe=>?_) (λhe=>?_) <;> (rw[he];conv=>whnf)
 . rw[if_pos he]at hr;subst hr;exact af rfl rfl
 rw[if_neg (by rw[he];simp)]at hr;refine⟨PS z q (bI (bf [] z ⟨z.apex,4⟩) z q.name),ag.keep ⟨ab,ab,ab,ab,trivial⟩ ⟨ab,ab,ab,ab,trivial⟩,?_⟩
 conv=>whnf
 (refine⟨_,_,GB z q.name hz5 ho.name hqn hu hex,?_⟩;conv=>whnf)
 (refine⟨_,_,Ft (c8 z q.name) hcl,?_⟩;conv=>whnf)
 refine ae (λhj=>?_) (λhj=>?_) <;> (rw[hj];conv=>whnf)
 . rw[if_pos hj]at hr;subst hr;exact af rfl rfl
 rw[if_neg (by rw[hj];simp)]at hr;have hwv:ao (cw ([42]::aT (c8 z q.name))).1=true:=by
  have hj0:(cw ([42]::aT (c8 z q.name))).2=0:=by simpa using hj
  unfold cw at hj0 ⊢;split
  . rename_i h;exact(zJ h).1
  . rename_i h;rw[if_neg h]at hj0;simp at hj0
 have hcl2:=GG (bf [] z ⟨z.apex,4⟩) z q.name;have hl4:=len1 z.apex 4;exact BG z q hf hv hq _ hwv _ (by omega) r hr _ (ag.keep ⟨ab,ab,ab,ab,ab,trivial⟩ ⟨ab,ab,ab,ab,trivial⟩)
theorem DF(z:az)(q:aQ)(hf:fh z=true)(hv:aW z=true)(hq:bx q=true)(hu:aF q.name z.apex=true)(hno:(!(bo z q.name==[])&&(!(bo z q.name==q.name)|| !fW q))=false)(r:Ans×Int)(hr:lW z q=r)(st:St)(hw:ag cxR st (stR z q)) :
 vc cxR Tryz.f78.ntmps fzR (tu 8 ((Tryz.f78.body).getD .skip)) (fnQ cxR Tryz.f78.results.toList (.tuple [.agg ((ee r.1).map .d),.d (.int .i64 r.2)]) []) st:=by
 obtain⟨f1,f2⟩:=cS hf;have hz5:z.sets.length<=100000:=by omega
 have addK:∀(l:List Signed) (fl:Bool) (n:Bs) (t:Int),l.length<=100000->FnR cxR 144 true 74 5 (l.map an) fl [.agg (aM z),.str n,.int .i64 t] ((bf l z ⟨n,t⟩).map an):=λl fl n t hl=>ja (cx:=cx) (cx' :=cxR) rfl rfl (ng l fl z n t hl hz5)
 have lenE:∀n t,(((bf [] z ⟨n,t⟩).map an).length:Int)=((bf [] z ⟨n,t⟩).length:Int):=λn t=>by rw[aj]
 have len1:∀n t,(bf [] z ⟨n,t⟩).length<=100:=λn t=>by have:=jk [] z ⟨n,t⟩;simp at this;omega
 have ho:=bB hv;have hqn:ao q.name=true:=by unfold bx at hq;simp only[aC]at hq;exact hq.1.1
 have covK:∀(l:List Signed) (fl:Bool) (n:Bs),l.length<=100000->ao n=true->FnR cxR 145 true 74 5 (l.map an) fl [.agg (aM z),.str n] ((bI l z n).map an):=λl fl n hl hn=>ja (cx:=cx) (cx' :=cxR) rfl rfl (oh l fl z n hl hz5 ho.name hn)
 have hvq:(!aW z|| !bx q)=false:=by rw[hv,hq];rfl
 unfold lW at hr;rw[if_neg (by simp[hvq]),if_neg (by simp[hu]),if_neg (by rw[hno];simp)]at hr
 conv=>whnf
 refine⟨stR z q,hw,?_⟩
 conv=>whnf
 refine⟨_,addK [] false q.name q.type (by simp),?_⟩
 conv=>whnf
 rw[lenE];refine ae (λhd=>?_) (λhd=>?_) <;> (rw[hd];conv=>whnf)
 . rw[if_pos hd]at hr;subst hr;exact af rfl rfl
 rw[if_neg (by rw[hd];simp)]at hr;refine⟨stR z q,ag.keep ⟨ab,ab,ab,trivial⟩ ⟨ab,ab,ab,trivial⟩,?_⟩
 conv=>whnf
 refine⟨_,addK [] false q.name 3 (by simp),?_⟩
 conv=>whnf
 rw[lenE];refine ae (λha=>?_) (λha=>?_) <;> (rw[ha];conv=>whnf)
 . refine ae (λh8=>?_) (λh8=>?_) <;> (rw[h8];conv=>whnf)
   . rw[if_pos (by rw[ha,h8];rfl)]at hr;subst hr;exact af rfl rfl
   . rw[if_neg (by rw[ha,h8];simp)]at hr;exact tG z q hf hv hq hu r hr _ (ag.keep ⟨ab,ab,ab,trivial⟩ ⟨ab,ab,ab,trivial⟩)
 . rw[if_neg (by rw[ha];simp)]at hr;exact tG z q hf hv hq hu r hr _ (ag.keep ⟨ab,ab,ab,trivial⟩ ⟨ab,ab,ab,trivial⟩)
theorem H4(z:az)(q:aQ)(hf:fh z=true):NQ.Fn cx 78 [.agg (aM z),.agg (cL q)] (.tuple [.agg ((ee (lW z q).1).map .d),.d (.int .i64 (lW z q).2)]) []:=by
 show NQ.Fn cxR _ _ _ _
 refine cK fzR tyR Dk Tryz.func78 (by kernel_rfl) rfl (ai rfl) ?_
 conv=>whnf
 obtain⟨f1,f2⟩:=cS hf;have hz5:z.sets.length<=100000:=by omega
 have addK:∀(l:List Signed) (fl:Bool) (n:Bs) (t:Int),l.length<=100000->FnR cxR 144 true 74 5 (l.map an) fl [.agg (aM z),.str n,.int .i64 t] ((bf l z ⟨n,t⟩).map an):=λl fl n t hl=>ja (cx:=cx) (cx' :=cxR) rfl rfl (ng l fl z n t hl hz5)
 have len1:∀n t,(bf [] z ⟨n,t⟩).length<=1:=λn t=>jk [] z ⟨n,t⟩
 have lenE:∀n t,(((bf [] z ⟨n,t⟩).map an).length:Int)=((bf [] z ⟨n,t⟩).length:Int):=λn t=>by rw[aj]
 (refine⟨_,_,A4 z hz5,?_⟩;conv=>whnf)
 (refine⟨_,_,A3 q,?_⟩;conv=>whnf)
 have bad:(!aW z|| !bx q)=true->lW z q=(jm,1):=λh=>by unfold lW;rw[if_pos h]
 refine ae (λhv=>?_) (λhv=>?_) <;> (rw[hv];conv=>whnf)
 . exact af rfl (by rw[bad (by rw[hv];rfl)];rfl)
 refine ae (λhq=>?_) (λhq=>?_) <;> (rw[hq];conv=>whnf)
 . exact af rfl (by rw[bad (by rw[hq];simp)];rfl)
 have hvq:(!aW z|| !bx q)=false:=by rw[hv,hq];rfl
 have hv:aW z=true:=by simpa using hv
 have hq:bx q=true:=by simpa using hq
 have ho:=bB hv;have hqn:ao q.name=true:=by unfold bx at hq;simp only[aC]at hq;exact hq.1.1
 have covK:∀(l:List Signed) (fl:Bool) (n:Bs),l.length<=100000->ao n=true->FnR cxR 145 true 74 5 (l.map an) fl [.agg (aM z),.str n] ((bI l z n).map an):=λl fl n hl hn=>ja (cx:=cx) (cx' :=cxR) rfl rfl (oh l fl z n hl hz5 ho.name hn)
 (refine⟨_,_,lH q.name z.apex (bz hqn) (bz ho.apex),?_⟩;conv=>whnf)
 refine ae (λhu=>?_) (λhu=>?_) <;> (rw[hu];conv=>whnf)
 . exact af rfl (by unfold lW;rw[if_neg (by simp[hvq]),if_pos hu];rfl)
 have hun:(!aF q.name z.apex)=false:=hu;have hu:aF q.name z.apex=true:=by simpa using hu
 (refine⟨_,_,Cv z q.name hz5 ho.name hqn,?_⟩;conv=>whnf)
 have base : lW z q = if (!(bo z q.name == []) && (!(bo z q.name == q.name) || !fW q)) = true then (ln z (bo z q.name), 0)
     else if decide (((bf [] z q).length:Int)>0)=true then(⟨1,bf [] z q,[]⟩,0)
     else if (decide (((bf [] z ⟨q.name,3⟩).length:Int)>0)&&(q.type != 8))=true then(⟨3,bf [] z ⟨q.name,3⟩,[]⟩,0)
     else if cT z q.name=true then(⟨5,bI (bf [] z ⟨z.apex,4⟩) z q.name,[]⟩,0)
     else if (!((cw ([42]::aT (c8 z q.name))).2==0))=true then(⟨6,bI (bf [] z ⟨z.apex,4⟩) z q.name,[]⟩,0)
     else let w:=(cw ([42]::aT (c8 z q.name))).1
     if decide (((bf [] z ⟨w,q.type⟩).length:Int)>0)=true then(⟨2,bI (bf [] z ⟨w,q.type⟩) z q.name,[]⟩,0)
     else if (decide (((bf [] z ⟨w,3⟩).length:Int)>0)&&(q.type != 8))=true then(⟨3,bI (bf [] z ⟨w,3⟩) z q.name,[]⟩,0)
     else if cT z w=true then(⟨5,bI (bI (bf [] z ⟨z.apex,4⟩) z q.name) z w,[]⟩,0)
     else(⟨6,bI (bI (bf [] z ⟨z.apex,4⟩) z q.name) z w,[]⟩,0):=by unfold lW;rw[if_neg (by simp[hvq]),if_neg (by simp[hun])]
 have ref:bo z q.name≠[]->NQ.Fn cxR 143 [.agg (aM z),.str (bo z q.name)] (.agg ((ee (ln z (bo z q.name))).map .d)) []:=λhne=>by
  obtain⟨c1,c2⟩:=uh ho hne;exact Kh z (bo z q.name) (by omega) c1 c2 (F9 ho hf)
 have done:∀(b:Bool),(!(bo z q.name==[])&&(!(bo z q.name==q.name)|| !fW q))=b->b=true->lW z q=(ln z (bo z q.name),0):=λb h1 h2=>by rw[base,if_pos (by rw[h1,h2])]
 have hval:=dw.1 hv;have hex:cT z z.apex=true:=sL hval.start;have hcl:ao (c8 z q.name)=true:=tB hqn
 repeat' (first
  |(refine ae (λh=>?_) (λh=>?_) <;> (rw[h];conv=>whnf))
  | (refine ⟨_, _, ref (Jf (by assumption)), ?_⟩
     conv=>whnf
     have e0:(!(bo z q.name==[]))=true:=by assumption
     have e1:(!(bo z q.name==[])&&(!(bo z q.name==q.name)|| !fW q))=true:=by(unfold fW;simp only[*, if_true,if_false,aD])
     exact af rfl (by rw[done _ e1 rfl];rfl))
  |fail)
 all_goals
  have hno:(!(bo z q.name==[])&&(!(bo z q.name==q.name)|| !fW q))=false:=by
   unfold fW
   first
    | (have e0 : (!(bo z q.name == [])) = true := by assumption
       simp only[*, if_true,if_false,aD];done)
    | (have e0 : (!(bo z q.name == [])) = false := by assumption
       simp only[*, if_true,if_false,aD];done)
  exact DF z q hf hv hq hu hno _ rfl _ (ag.keep ⟨ab,ab,ab,trivial⟩ ⟨ab,ab,ab,trivial⟩)
end Go.Proofs.YtjapjahfllomkaaGreatDoor
namespace NP
open NQ Go
def gI(sets:List Signed)(l:List Signed)(p:Int):List Signed :=
 if decide (p<0)=true then l else match sets[p.toNat]? with|some s=>if bR l (qOf s)=true then l else l++[s]|none=>l
def IJ(sets l:List Signed)(seen:List Int):Prop:= ∀(k:Nat) s,sets[k]? =some s->bR l (qOf s)=seen.contains (k:Int)
theorem AY{sets:List Signed}(hr:RP sets){i j:Nat}{a b:Signed}(ha:sets[i]? =some a)(hb:sets[j]? =some b)(h:a.place=b.place):i=j:=by
 have hp:=List.pairwise_iff_getElem.1 hr;obtain⟨hi,e1⟩:=av.1 ha;obtain⟨hj,e2⟩:=av.1 hb;rcases Nat.lt_trichotomy i j with hlt|heq|hlt
 . exact absurd h (by have:=hp i j hi hj hlt;rw[e1,e2]at this;exact oi this)
 . exact heq
 . exact absurd h.symm (by have:=hp j i hj hi hlt;rw[e1,e2]at this;exact oi this)
theorem l8{sets:List Signed}(hr:RP sets):∀(ps:List Int) (l:List Signed) (seen:List Int),(∀p∈ps,p<sets.length)->IJ sets l seen->ps.foldl (gI sets) l=l++cd sets seen ps
 |[],l,seen,_,_=>by simp[cd]
 |p::ps,l,seen,hp,hs=>by
  have hps:∀q∈ps,q<sets.length:=λq hq=>hp q (aK _ hq)
  rw[List.foldl_cons,cd];by_cases hneg:p<0
  . have e:gI sets l p=l:=by unfold gI;rw[if_pos (by simpa using hneg)]
    rw[e,if_pos (by simp[hneg])];refine l8 hr ps l _ hps λk s hk=>?_
    rw[hs k s hk,Bool.eq_iff_iff,cq,cq,List.mem_append];refine⟨.inl,λh=>h.elim id λh=>?_⟩;simp at h;omega
  . have hplt:=hp p (List.mem_cons_self ..);obtain⟨s,hsp⟩:∃s,sets[p.toNat]? =some s:=⟨_,ah (by omega)⟩
    have hpn:((p.toNat:Nat):Int)=p:=by omega
    have hin:=hs p.toNat s hsp;rw[hpn]at hin;cases hc:seen.contains p with
    |true =>
     rw[hc]at hin;have e:gI sets l p=l:=by unfold gI;rw[if_neg (by simpa using hneg),hsp];simp only[hin,if_true]
     rw[e,if_pos (by simp[hc])];refine l8 hr ps l _ hps λk t hk=>?_
     rw[hs k t hk,Bool.eq_iff_iff,cq,cq,List.mem_append];refine⟨.inl,λh=>h.elim id λh=>?_⟩;simp at h;rw[h];exact cq.1 hc
    |false =>
     rw[hc]at hin;have e:gI sets l p=l++[s]:=by unfold gI;rw[if_neg (by simpa using hneg),hsp];simp only[hin,if_false,cr]
     rw[e,if_neg (by simp[hneg,hc]),hsp];rw[l8 hr ps (l++[s]) (seen++[p]) hps λk t hk=>?_]
     . simp
     . have:bR (l++[s]) (qOf t)=(bR l (qOf t)||is (qOf t) s):=by unfold bR;rw[List.any_append];simp
       rw[this,hs k t hk,Bool.eq_iff_iff,Bool.or_eq_true,cq,cq,List.mem_append];refine or_congr Iff.rfl ?_;rw[iD,List.mem_singleton];constructor
       . intro h;have:=AY hr hsp hk h;omega
       . intro h;have:k=p.toNat:=by omega
         subst this;rw[hsp]at hk;cases hk;rfl
theorem tk(sets:List Signed):IJ sets [] []:=λk s _=>rfl
theorem gj{z:az}(l:List Signed)(q:aQ):bf l z q=gI z.sets l (atI z.sets q):=by
 unfold bf gI;by_cases h:decide (atI z.sets q<0)=true
 . rw[if_pos h,if_pos h]
 . rw[if_neg h,if_neg h];have hh:bR z.sets q=true:=by
    have:=iX z.sets q;cases hc:bR z.sets q with
    |true=>rfl
    |false=>rw[hc]at this;exact absurd this h
   obtain⟨k,s,h1,h2,h3⟩:=nJ hh;have hk:(atI z.sets q).toNat=k:=by rw[h1];rfl
   rw[hk,h2];simp only;have:bR l q=bR l (qOf s):=by
    unfold bR
    congr 1
    funext x
    rw[Bool.eq_iff_iff,iD,iD];have:(qOf s).place=q.place:=h3;rw[this]
   rw[this]
theorem yc(l:List Signed)(n:Bs):∀k:Nat,k<=mN l n->(∀i s,i<k->l[i]? =some s->aH s.set.name n<=0)->(lD l n k=none/\j4 l k= -1)\/ ∃i s,l[i]? =some s/\lD l n k=some s/\j4 l k=((i:Nat):Int)/\s.set.type=8
 |0,_,_=> .inl ⟨rfl,rfl⟩
 |k+1,hk,h=>by
  have hlt:k<l.length:=by have:=nz l n;omega
  obtain⟨s,hs⟩:∃s,l[k]? =some s:=⟨_,ah hlt⟩
  have hc:=h k s (by omega) hs;simp only[lD,j4,hs];by_cases ht:s.set.type=8
  . refine .inr ⟨k,s,hs,?_,?_,ht⟩
    . rw[if_pos (by unfold mC;simp[ht,hc])]
    . simp[ht]
  . have e1:mC n s=false:=by unfold mC;simp[ht]
    rw[if_neg (by simp[e1])];have e2:(s.set.type==8)=false:=by simpa using ht
    have:=yc l n k (by omega) λi s hi hs=>h i s (by omega) hs
    simpa [e2,ht] using this
theorem Av(l:List Signed)(n:Bs):∀k j:Nat,j<=k->(∀i s,j<=i->i<k->l[i]? =some s->0<aH s.set.name n)->lD l n k=lD l n j
 | 0, j, hj, _ => by obtain rfl : j = 0 := by omega
                     rfl
 |k+1,j,hj,h=>by
  by_cases e:j=k+1
  . rw[e]
  . rw[lD];have:=Av l n k j (by omega) λi s h1 h2 hs=>h i s h1 (by omega) hs
    cases hs:l[k]? with
    |none=>exact this
    |some s =>
     have hc:=h k s (by omega) (by omega) hs;have e1:mC n s=false:=by unfold mC;rw[decide_eq_false (by omega)];simp
     simp only;rw[if_neg (by simp[e1])];exact this
theorem Jc{z:az}(hr:dG z.sets)(n:Bs):(lD z.sets n z.sets.length=none/\eY z.sets n= -1)\/ ∃i s,z.sets[i]? =some s/\lD z.sets n z.sets.length=some s/\eY z.sets n=((i:Nat):Int)/\s.set.type=8:=by
 have hp:=mu hr;rw[Av z.sets n z.sets.length (mN z.sets n) (nz _ _) λi s h1 _ hs=>(s4 hp hs).1 h1];exact yc z.sets n _ (Nat.le_refl _) λi s hi hs=>by
  have:¬(mN z.sets n<=i):=by omega
  rw[s4 hp hs]at this;omega
theorem lL{z:az}(hr:dG z.sets)(l:List Signed)(n:Bs):bI l z n=gI z.sets l (eY z.sets n):=by
 unfold bI;rcases Jc hr n with ⟨h1,h2⟩|⟨i,s,hs,h1,h2,ht⟩
 . rw[h1,h2];rfl
 . rw[h1,h2];simp only;rw[gj];have hmem:=ar hs;have hq:(⟨s.set.name,8⟩:aQ).place=s.place:=by unfold aQ.place Signed.place;simp[ht]
   have hh:bR z.sets ⟨s.set.name,8⟩=true:=nv.2 ⟨s,hmem,hq.symm⟩;obtain⟨k,t,h3,h4,h5⟩:=nJ hh;have:=AY hr.pw h4 hs (h5.trans hq);subst this;rw[h3]
theorem NS{a b:Bs}(h:aH a b<=0):0<=aH b a:=by have:=bl.anti a b;omega
theorem Ld{a b:Bs}(h:0<=aH a b):aH b a<=0:=by have:=bl.anti a b;omega
theorem vl{s n:Bs}(hs:ao s=true)(hn:ao n=true):(bG s n).1=aF s n:=by unfold bG;rw[if_pos ⟨hs,hn⟩]
theorem mE{z:az}(ho:Ordered z){n:Bs}(hn:ao n=true):exB z.sets n=cT z n:=by
 have hp:=mu ho.rising;have ge:∀s∈z.sets,aF s.set.name n=true-> ∃i,z.sets[i]? =some s/\oQ z.sets n<=i:=λs hs hu=>by
  obtain⟨i,hi⟩:=cE hs;exact⟨i,hi,(s5 hp hi).2 (NS (nE hu))⟩
 unfold exB cT;cases hg:z.sets[oQ z.sets n]? with
 |none =>
  symm
  rw[List.any_eq_false];intro s hs hu;obtain⟨i,hi,hle⟩:=ge s hs hu;have h1:=(av.1 hi).1;have h2:=List.getElem?_eq_none_iff.1 hg;omega
 |some t =>
  have htm:=ar hg;simp only;rw[vl (ho.name t htm) hn];cases hu:aF t.set.name n with
  |true=>symm;exact List.any_eq_true.2 ⟨t,htm,hu⟩
  |false =>
   symm
   rw[List.any_eq_false];intro s hs hus;obtain⟨i,hi,hle⟩:=ge s hs hus;have hnt:aH n t.set.name<=0:=Ld ((s5 hp hg).1 (Nat.le_refl _));have hts:aH t.set.name s.set.name<=0:=by
    rcases Nat.lt_or_eq_of_le hle with hlt|heq
    . obtain⟨h1,e1⟩:=av.1 hg;obtain⟨h2,e2⟩:=av.1 hi;have:=List.pairwise_iff_getElem.1 hp _ _ h1 h2 hlt
      rwa [e1,e2]at this
    . rw[<- heq,hg]at hi;cases hi;have:=(bl.zero t.set.name t.set.name).2 rfl;omega
   have:=nF (gN n) hus hnt hts;rw[hu]at this;cases this
theorem Cn{z:az}(ho:Ordered z)(hex:cT z z.apex=true):∀(f:Nat) (n:Bs),ao n=true->aF n z.apex=true->nn z.apex z.sets f n=w6 z f n
 |0,n,_,_=>rfl
 |f+1,n,hn,hu=>by
  rw[nn,w6];by_cases hne:n=z.apex
  . subst hne;rw[if_pos rfl,if_pos hex]
  . rw[if_neg hne,mE ho hn];cases he:cT z n with
    |true=>rw[if_pos rfl,if_pos rfl]
    |false =>
     rw[if_neg (by simp),if_neg (by simp)];obtain⟨_,k2,_⟩:=iP hn hu hne;exact Cn ho hex f (bu n) (dR hn) k2
theorem yo{z:az}{v:View}(hv:v.sets=z.sets)(hc:ao v.cut=true):∀(h:List Datum) (l:List Signed),(∀d∈h,ao d.text=true)->jy z v.cut l h=(er v h).foldl (gI z.sets) l
 |[],l,_=>by simp[jy,er]
 |d::h,l,hd=>by
  have e1:jy z v.cut l (d::h)=jy z v.cut (if aF d.text v.cut=true then bf l z ⟨d.text,1⟩else l) h:=rfl;have e2:er v (d::h)=(if (bG d.text v.cut).1=true then[atI v.sets ⟨d.text,1⟩]else[])++er v h:=by unfold er;rw[List.flatMap_cons]
  rw[e1,e2,List.foldl_append,vl (hd d (List.mem_cons_self ..)) hc,yo hv hc h _ λx hx=>hd x (aK _ hx)]
  congr 1
  split
  . rw[gj,hv];rfl
  . rfl
theorem Of{v:View}{l:List Datum}{q:Int}(hq:q∈er v l):q<v.sets.length:=by
 unfold er at hq;obtain⟨x,_,hx⟩:=List.mem_flatMap.1 hq;split at hx
 . simp at hx;rw[hx];exact c9 _ _
 . cases hx
theorem uZ{v:View}{q:Int}(hq:q∈eG v):q<v.sets.length:=by
 unfold eG at hq;rcases List.mem_append.1 hq with hq|hq
 . simp at hq;rcases hq with rfl|rfl
   . exact c9 _ _
   . unfold iH;split <;> exact c9 _ _
 . exact Of hq
theorem Mz{z:az}{v:View}(ho:Ordered z)(hf:fh z=true)(hs:v.sets=z.sets)(hc:ao v.cut=true)(hcut:bR z.sets ⟨v.cut,2⟩=true):(⟨4,cd v.sets [] (eG v),v.cut⟩:Ans)=ln z v.cut:=by
 obtain⟨s0,hs0,hp0,e0⟩:=wU hcut;have hr0:rl0 z v.cut=[s0]:=e0;have e2:rl2 z v.cut=gI z.sets (gI z.sets [] (dY v)) (iH v):=by
  have e3:gI z.sets [] (dY v)=[s0]:=by unfold dY;rw[hs, <- gj];exact e0
  rw[e3];unfold rl2;rw[hr0];have hr1:rl1 z v.cut=gI z.sets [s0] (atI z.sets ⟨v.cut,6⟩):=by unfold rl1;rw[hr0,gj]
  by_cases hneg:atI z.sets ⟨v.cut,6⟩<0
  . have:rl1 z v.cut=[s0]:=by rw[hr1];unfold gI;rw[if_pos (by simpa using hneg)]
    rw[this,if_pos (by simp),gj];unfold iH;rw[hs,if_pos (by simpa using hneg)]
  . obtain⟨k,s,h1,h2,h3⟩:=nJ (l:=z.sets) (q:=⟨v.cut,6⟩) (by
     have:=iX z.sets ⟨v.cut,6⟩;cases hc:bR z.sets ⟨v.cut,6⟩with
     |true=>rfl
     |false=>rw[hc]at this;simp at this;omega)
    have hno:bR [s0] (qOf s)=false:=by
     unfold bR;simp only[List.any_cons,List.any_nil,ji];rw[<- Bool.not_eq_true,iD];intro e;have e' :s0.place=s.place:=e;rw[hp0,h3]at e';have:=congrArg Prod.snd e';simp[aQ.place]at this
    have:rl1 z v.cut=[s0]++[s]:=by rw[hr1,h1];unfold gI;rw[if_neg (by simp)];simp only[show((k:Nat):Int).toNat=k by simp,h2,hno];rfl
    rw[this,if_neg (by simp), <- this,hr1];unfold iH;rw[hs,if_neg (by simpa using hneg)]
 have hho:rR (rl0 z v.cut)=jA v:=by
  have h1:dY v=atI z.sets ⟨v.cut,2⟩:=by unfold dY;rw[hs]
  obtain⟨k,s,a1,a2,a3⟩:=nJ hcut;have:s=s0:=RP.uniq ho.rising.pw (ar a2) hs0 (a3.trans hp0.symm);subst this;unfold rR jA;rw[hr0,h1,a1,hs];simp[a2]
 have hdv:∀d∈jA v,ao d.text=true:=by
  rw[<- hho];unfold rR;rw[hr0];exact((F9 ho hf) s0 hs0).2 (congrArg Prod.snd hp0)
 unfold ln
 congr 1
 rw[hho,e2,yo hs hc _ _ hdv,hs];have:=l8 ho.rising.pw (eG v) [] [] (λp hp=>by rw[<- hs];exact uZ hp) (tk _);rw[List.nil_append]at this;rw[<- this];unfold eG;rw[List.foldl_append];rfl
theorem Nu{z:az}(ho:Ordered z)(p:Int)(hp:p<z.sets.length):cd z.sets [] [p]=gI z.sets [] p:=by
 have:=l8 ho.rising.pw [p] [] [] (λq hq=>by simp at hq;rw[hq];exact hp) (tk _);rw[List.nil_append]at this;rw[<- this];rfl
theorem BS{z:az}(ho:Ordered z)(p q:Int)(hp:p<z.sets.length)(hq:q<z.sets.length):cd z.sets [] [p,q]=gI z.sets (gI z.sets [] p) q:=by
 have:=l8 ho.rising.pw [p,q] [] [] (λr hr=>by simp at hr;rcases hr with rfl|rfl <;> assumption) (tk _);rw[List.nil_append]at this;rw[<- this];rfl
theorem Nv{z:az}(ho:Ordered z)(p q r:Int)(hp:p<z.sets.length)(hq:q<z.sets.length)(hr:r<z.sets.length):cd z.sets [] [p,q,r]=gI z.sets (gI z.sets (gI z.sets [] p) q) r:=by
 have:=l8 ho.rising.pw [p,q,r] [] [] (λx hx=>by simp at hx;rcases hx with rfl|rfl|rfl <;> assumption) (tk _);rw[List.nil_append]at this;rw[<- this];rfl
theorem vt{z:az}{q:aQ}:decide (((bf [] z q).length:Int)>0)=decide (atI z.sets q>=0):=by
 have h:=iX z.sets q;cases hh:bR z.sets q with
 |true =>
  obtain⟨s,_,_,e⟩:=wU hh;rw[e];rw[hh]at h;have:¬atI z.sets q<0:=by simpa using h
  rw[decide_eq_true (by simp),decide_eq_true (by omega)]
 |false =>
  rw[IL hh];rw[hh]at h;have:atI z.sets q<0:=by simpa using h
  rw[decide_eq_false (by simp),decide_eq_false (by omega)]
theorem IZ{z:az}(ho:Ordered z)(t:Int):atI z.sets ⟨[],t⟩<0:=by
 have h:=iX z.sets ⟨[],t⟩;cases hh:bR z.sets ⟨[],t⟩with
 |true =>
  obtain⟨s,hs,hp⟩:=nv.1 hh;have hv:=ho.name s hs;have:s.set.name=[]:=congrArg Prod.fst hp;rw[this]at hv;exact absurd rfl (kO hv)
 |false=>rw[hh]at h;simpa using h
theorem OK{z:az}(hf:fh z=true)(q:aQ):lW z q=cn z q:=by
 unfold lW;have hty:(decide (q.type<1)||decide (q.type>8))=true->cn z q=(jm,1):=λh=>by unfold cn;rw[if_pos h]
 have hcu:∀c b e,(decide (q.type<1)||decide (q.type>8))=false->eh z q.name=(c,b,e)->cn z q=if (e==20)=true then(⟨7,[],[]⟩,0)else if (e != 0)=true then(jm,e)else(fQ (kP z q c b),0):=λc b e h hc=>by
  unfold cn;rw[if_neg (by simp[h]),hc]
 cases hv:aW z with
 |false =>
  rw[if_pos (by simp)];have hc:eh z q.name=([],false,1):=by unfold eh;rw[hv];simp
  cases ht:(decide (q.type<1)||decide (q.type>8))with
  |true=>rw[hty ht]
  |false=>rw[hcu _ _ _ ht hc];rfl
 |true =>
 have ho:=bB hv;cases hqn:ao q.name with
 |false =>
  have hqb:bx q=false:=by unfold bx;rw[hqn];rfl
  rw[if_pos (by rw[hqb];rfl)];have hc:eh z q.name=([],false,1):=by unfold eh;rw[hqn];simp
  cases ht:(decide (q.type<1)||decide (q.type>8))with
  |true=>rw[hty ht]
  |false=>rw[hcu _ _ _ ht hc];rfl
 |true =>
 cases ht:(decide (q.type<1)||decide (q.type>8))with
 |true =>
  have hqb:bx q=false:=by
   unfold bx;rw[hqn];simp at ht ⊢;omega
  rw[if_pos (by rw[hqb];rfl),hty ht]
 |false =>
 have hqb:bx q=true:=by
  unfold bx;rw[hqn];simp at ht ⊢;omega
 rw[if_neg (by rw[hqb];simp)];cases hu:aF q.name z.apex with
 |false =>
  rw[if_pos (by simp)];have hc:eh z q.name=([],false,20):=by unfold eh;rw[hqn,hv,vl hqn ho.apex,hu];simp
  rw[hcu _ _ _ ht hc];rfl
 |true =>
 rw[if_neg (by simp)];have hc:=zt hv hqn hu;have hR:cn z q=(fQ (kP z q (bo z q.name) (!(bo z q.name==[]))),0):=by rw[hcu _ _ _ ht hc];rfl
 rw[hR];have hval:=dw.1 hv;have hex:cT z z.apex=true:=sL hval.start;generalize hcc:bo z q.name=c;have hcOk:c≠[]->ao c=true/\bR z.sets ⟨c,2⟩=true:=λh=>hcc ▸ uh ho (hcc ▸ h)
 dsimp only;generalize hvv:kP z q c (!(c==[]))=v;have hsets:v.sets=z.sets:=by rw[<- hvv];rfl
 have hvq:v.q=q:=by rw[<- hvv];rfl
 have hvc:v.cut=c:=by rw[<- hvv];rfl
 have hva:v.apex=z.apex:=by rw[<- hvv];rfl
 have hwild:v.cO=[]:=by rw[<- hvv];rfl
 have hrB:fq v=(!(c==[])&&(!(c==q.name)|| !fW q)):=by
  rw[<- hvv];unfold fq tU fW kP;dsimp only;rw[Bool.beq_comm (a:=q.name) (b:=c)];cases (c==[]) <;> cases (c==q.name) <;> simp
 unfold fQ;rw[hrB];cases hr:(!(c==[])&&(!(c==q.name)|| !fW q))with
 |true =>
  simp only[↓reduceIte];have hne:c≠[]:=by intro e;rw[e]at hr;simp at hr
  obtain⟨h1,h2⟩:=hcOk hne;have:=Mz (v:=v) ho hf hsets (by rw[hvc];exact h1) (by rw[hvc];exact h2);unfold jM;rw[hrB,hr,if_pos rfl,this,hvc]
 |false =>
 simp only[cr, ↓reduceIte];have hd:vz v=decide (((bf [] z q).length:Int)>0):=by unfold vz;rw[vt,hsets,hvq]
 rw[hd];cases hdd:decide (((bf [] z q).length:Int)>0)with
 |true =>
  simp only[↓reduceIte];unfold yd;rw[hsets,hvq,Nu ho _ (c9 _ _),gj]
 |false =>
 simp only[cr, ↓reduceIte];have ha:n9 v=(decide (((bf [] z ⟨q.name,3⟩).length:Int)>0)&&(q.type != 8)):=by unfold n9;rw[vt,hsets,hvq]
 rw[ha];cases haa:(decide (((bf [] z ⟨q.name,3⟩).length:Int)>0)&&(q.type != 8))with
 |true =>
  simp only[↓reduceIte];unfold xT;rw[hsets,hvq,Nu ho _ (c9 _ _),gj]
 |false =>
 simp only[cr, ↓reduceIte];have hproof:cd z.sets [] [dJ v,eY v.sets v.q.name]=bI (bf [] z ⟨z.apex,4⟩) z q.name:=by
  rw[BS ho _ _ (by unfold dJ;rw[hsets];exact c9 _ _) (by rw[hsets];exact dM _ _),lL ho.rising,gj];unfold dJ;rw[hsets,hvq,hva]
 rw[hsets,hvq,mE ho hqn];cases he:cT z q.name with
 |true =>
  simp only[↓reduceIte];unfold lj;rw[hsets,hvq,mE ho hqn,he,if_pos rfl];rw[hsets,hvq]at hproof;rw[<- hproof]
 |false =>
 simp only[cr, ↓reduceIte];have hcl:od v.apex v.sets v.q.name=c8 z q.name:=by
  unfold od c8;rw[hsets,hvq,hva];exact Cn ho hex _ _ hqn hu
 have hnd:b7 v={v with cO:=mT (c8 z q.name)}:=by
  unfold b7;rw[<- hcl,hsets,hvq,mE ho hqn,he,if_neg (by simp)]
 rw[hnd];generalize hst:mT (c8 z q.name)=w;have hu2:({v with cO:=w}:View).sets=z.sets:=hsets;cases hj:((cw ([42]::aT (c8 z q.name))).2==0)with
 |false =>
  have hw:w=[]:=by rw[<- hst];exact xL _ (by simpa using hj)
  rw[if_pos (by simp)];have h1:qR {v with cO:=w}=false:=by
   unfold qR;rw[hw];have:=IZ ho v.q.type;rw[<- hsets]at this;exact decide_eq_false (by show ¬(atI v.sets ⟨[],v.q.type⟩>=0);omega)
  have h2:gh {v with cO:=w}=false:=by
   unfold gh;rw[hw];have:=IZ ho 3;rw[<- hsets]at this;rw[decide_eq_false (show ¬(atI v.sets ⟨[],3⟩>=0) by omega)];rfl
  have h3:jZ {v with cO:=w}=false:=by unfold jZ;rw[hw];rfl
  rw[h1,h2,h3];simp only[cr,if_false];have:jW {v with cO:=w}=⟨6,cd v.sets [] [dJ v,eY v.sets v.q.name, -1],[]⟩:=by
   unfold jW;rw[if_pos hw];rfl
  rw[this,hsets];rw[hsets]at hproof;have hp3:cd z.sets [] [dJ v,eY z.sets v.q.name, -1]=cd z.sets [] [dJ v,eY z.sets v.q.name]:=by
   rw[Nv ho _ _ _ (by unfold dJ;rw[hsets];exact c9 _ _) (dM _ _) (by omega),BS ho _ _ (by unfold dJ;rw[hsets];exact c9 _ _) (dM _ _)];unfold gI;rw[if_pos (by decide)]
  rw[hp3,hproof]
 |true =>
  rw[if_neg (by simp)];have hw:(cw ([42]::aT (c8 z q.name))).1=w:=hst;have hwv:ao w=true:=by
   rw[<- hst];unfold mT;have hj0:(cw ([42]::aT (c8 z q.name))).2=0:=by simpa using hj
   unfold cw at hj0 ⊢;split
   . rename_i h;exact(zJ h).1
   . rename_i h;rw[if_neg h]at hj0;simp at hj0
  have hwne:=kO hwv;rw[hw]
  (try dsimp only)
  have h1:qR {v with cO:=w}=decide (((bf [] z ⟨w,q.type⟩).length:Int)>0):=by
   unfold qR;rw[vt];show decide (atI v.sets ⟨w,v.q.type⟩>=0)=_;rw[hsets,hvq]
  have h2:gh {v with cO:=w}=(decide (((bf [] z ⟨w,3⟩).length:Int)>0)&&(q.type != 8)):=by
   unfold gh;rw[vt];show(decide (atI v.sets ⟨w,3⟩>=0)&&(v.q.type != 8))=_;rw[hsets,hvq]
  have h3:jZ {v with cO:=w}=cT z w:=by
   unfold jZ;show(!(w==[])&&exB v.sets w)=_
   rw[hsets,mE ho hwv];have:(w==[])=false:=by simpa using hwne
   rw[this];rfl
  rw[h1,h2,h3];cases hdw:decide (((bf [] z ⟨w,q.type⟩).length:Int)>0)with
  |true =>
   simp only[↓reduceIte];show((⟨2,bI (bf [] z ⟨w,q.type⟩) z q.name,[]⟩:Ans),(0:Int))=(⟨2,cd v.sets [] [atI v.sets ⟨w,v.q.type⟩,eY v.sets v.q.name],[]⟩,0)
   rw[hsets,hvq,BS ho _ _ (c9 _ _) (dM _ _),lL ho.rising,gj]
  |false =>
  simp only[cr, ↓reduceIte];cases haw:(decide (((bf [] z ⟨w,3⟩).length:Int)>0)&&(q.type != 8))with
  |true =>
   simp only[↓reduceIte];show((⟨3,bI (bf [] z ⟨w,3⟩) z q.name,[]⟩:Ans),(0:Int))=(⟨3,cd v.sets [] [atI v.sets ⟨w,3⟩,eY v.sets v.q.name],[]⟩,0)
   rw[hsets,hvq,BS ho _ _ (c9 _ _) (dM _ _),lL ho.rising,gj]
  |false =>
  simp only[cr, ↓reduceIte];have hp3:bI (bI (bf [] z ⟨z.apex,4⟩) z q.name) z w=cd v.sets [] [dJ v,eY v.sets v.q.name,eY v.sets w]:=by
   rw[hsets,Nv ho _ _ _ (by unfold dJ;rw[hsets];exact c9 _ _) (dM _ _) (dM _ _),lL ho.rising,lL ho.rising,gj];unfold dJ;rw[hsets,hvq,hva]
  cases hew:cT z w with
  |true =>
   simp only[cr, ↓reduceIte];rw[hp3];unfold lB;rw[h3,hew,if_pos rfl];rfl
  |false =>
   simp only[cr, ↓reduceIte];rw[hp3];show _=(jW {v with cO:=w},(0:Int))
   unfold jW;rw[if_neg hwne];rfl
theorem DB(l:List Signed):∀(ps seen:List Int),(cd l seen ps).length<=ps.length
 |[],_=>by simp[cd]
 |p::t,seen=>by
  have:=DB l t (seen++[p]);rw[cd];split
  . rw[List.length_cons];omega
  . rw[List.length_cons,List.length_cons];omega
theorem sZ{l:List Signed}:∀{ps seen:List Int},(∀p∈ps,p<l.length)-> ∀s∈cd l seen ps,∃p∈ps,p ∉ seen/\0<=p/\l[p.toNat]? =some s
 |[],_,_,s,hs=>by simp[cd]at hs
 |p::t,seen,hp,s,hs=>by
  rw[cd]at hs;split at hs
  . obtain⟨q,h1,h2,h3⟩:=sZ (λq hq=>hp q (aK _ hq)) s hs;exact⟨q,aK _ h1,λe=>h2 (List.mem_append.2 (.inl e)),h3⟩
  . rename_i hc;simp only[Bool.or_eq_true,decide_eq_true_eq,cq,not_or]at hc;have hlt:=hp p (List.mem_cons_self ..);obtain⟨x,hx⟩:∃x,l[p.toNat]? =some x:=⟨_,ah (by omega)⟩
    rw[hx]at hs;rcases List.mem_cons.1 hs with e|hs
    . have e:s=x:=e;subst e;exact⟨p,List.mem_cons_self .., hc.2,by omega,hx⟩
    . obtain⟨q,h1,h2,h3⟩:=sZ (λq hq=>hp q (aK _ hq)) s hs;exact⟨q,aK _ h1,λe=>h2 (List.mem_append.2 (.inl e)),h3⟩
theorem wy(v:View):(b7 v).sets=v.sets:=by unfold b7;split <;> rfl
theorem En{v:View}(hd:(jA v).length<=900):∃ps:List Int,(∀p∈ps,p<v.sets.length)/\ps.length<=1000/\(fQ v).sets=cd v.sets [] ps:=by
 have e:=wy v;have hl:=qA v (jA v);unfold fQ;split
 . rename_i h;refine⟨eG v,λp hp=>uZ hp,?_,?_⟩
   . unfold eG;simp;omega
   . unfold jM;rw[if_pos h]
 split
 . exact⟨_,by simp[c9],by simp,rfl⟩
 split
 . exact⟨_,by simp[c9],by simp,rfl⟩
 split
 . rename_i h;refine⟨[dJ v,eY v.sets v.q.name],by simp[dJ,c9,dM],by simp,?_⟩;unfold lj;rw[if_pos h]
 split
 . refine⟨[_,_],?_,by simp,by unfold y9;rw[e]⟩;intro p hp;simp only[List.mem_cons,List.not_mem_nil,or_false]at hp;rcases hp with rfl|rfl
   . exact c9 _ _
   . exact dM _ _
 split
 . refine⟨[_,_],?_,by simp,by unfold mY;rw[e]⟩;intro p hp;simp only[List.mem_cons,List.not_mem_nil,or_false]at hp;rcases hp with rfl|rfl
   . exact c9 _ _
   . exact dM _ _
 split
 . rename_i h;refine⟨[_,_,_],?_,by simp,by unfold lB;rw[if_pos h,e]⟩;intro p hp;simp only[List.mem_cons,List.not_mem_nil,or_false]at hp;rcases hp with rfl|rfl|rfl
   . unfold dJ;rw[e];exact c9 _ _
   . exact dM _ _
   . exact dM _ _
 . refine⟨[_,_,_],?_,by simp,by unfold jW;rw[e]⟩;intro p hp;simp only[List.mem_cons,List.not_mem_nil,or_false]at hp;have hpos:(0:Int)<=v.sets.length:=by omega
   rcases hp with rfl|rfl|rfl
   . unfold dJ;rw[e];exact c9 _ _
   . exact dM _ _
   . split
     . omega
     . exact dM _ _
theorem xU{z:az}(hf:fh z=true)(q:aQ):∃ps:List Int,(∀p∈ps,p<z.sets.length)/\ps.length<=1000/\(cn z q).1.sets=cd z.sets [] ps:=by
 have none:∃ps:List Int,(∀p∈ps,p<z.sets.length)/\ps.length<=1000/\([]:List Signed)=cd z.sets [] ps:=⟨[],by simp,by simp,rfl⟩
 unfold cn;split
 . exact none
 split
 . exact none
 split
 . exact none
 . refine En (v:=kP z q _ _) ?_;unfold jA;split
   . rename_i s hs;have:=((cS hf).2 s (ar hs)).1;omega
   . simp
theorem NH{z:az}(hf:fh z=true)(q:aQ):∀s∈(cn z q).1.sets,s∈z.sets:=by
 obtain⟨ps,h1,_,h3⟩:=xU hf q;rw[h3];intro s hs;obtain⟨p,_,_,_,h⟩:=sZ h1 s hs;exact ar h
theorem zj{z:az}(hf:fh z=true)(q:aQ):(cn z q).1.sets.length<=1000:=by
 obtain⟨ps,h1,h2,h3⟩:=xU hf q;rw[h3];have:=DB z.sets ps [];omega
structure Use(z:az)(q:aQ):Prop where
 few:fh z=true
 val:aW z=true
 quest:bx q=true
 under:aF q.name z.apex=true
theorem Use.name{z:az}{q:aQ}(u:Use z q):ao q.name=true:=by have:=u.quest;unfold bx at this;simp only[aC]at this;exact this.1.1
theorem Use.ord{z:az}{q:aQ}(u:Use z q):Ordered z:=bB u.val
def vw(z:az)(q:aQ):View:=kP z q (bo z q.name) (!(bo z q.name==[]))
theorem Use.cut{z:az}{q:aQ}(u:Use z q):eh z q.name=(bo z q.name, !(bo z q.name==[]),0):=zt u.val u.name u.under
theorem Use.ans{z:az}{q:aQ}(u:Use z q):cn z q=(fQ (vw z q),0):=by
 have hq:=u.quest;unfold bx at hq;simp only[aC,decide_eq_true_eq]at hq;unfold cn;rw[if_neg (by simp;omega),u.cut];rfl
theorem D7(z:az)(q:aQ):fq (vw z q)=(!(bo z q.name==[])&& !((bo z q.name==q.name)&&fW q)):=by
 unfold fq tU fW vw kP;dsimp only;rw[Bool.beq_comm (a:=q.name) (b:=bo z q.name)];cases (bo z q.name==[]) <;> cases (bo z q.name==q.name) <;> simp
theorem IU(v:View):(fQ v).kind=if fq v=true then 4 else if vz v=true then 1 else if n9 v=true then 3 else if exB v.sets v.q.name=true then 5
 else if qR (b7 v)=true then 2 else if gh (b7 v)=true then 3 else if jZ (b7 v)=true then 5 else 6:=by
 unfold fQ;split
 . rename_i h;unfold jM;rw[if_pos h]
 split
 . rfl
 split
 . rfl
 split
 . rename_i h;unfold lj;rw[if_pos h]
 split
 . rfl
 split
 . rfl
 split
 . rename_i h;unfold lB;rw[if_pos h]
 . rfl
theorem K2{v:View}(h:fq v=false):(fQ v).cut=[]:=by
 unfold fQ;rw[if_neg (by simp[h])]
 repeat' split
 all_goals first|rfl|skip
 . unfold lj;split <;> rfl
 . unfold lB;split <;> rfl
theorem Use.OE{z:az}{q:aQ}(u:Use z q)(hr:fq (vw z q)=false):((cn z q).1.kind==4)=false/\(cn z q).1.cut=[]:=by
 rw[u.ans];refine⟨?_,K2 hr⟩;show((fQ (vw z q)).kind==4)=false
 rw[IU,hr];simp only[cr, ↓reduceIte]
 repeat' split
 all_goals rfl
theorem Use.Qe{z:az}{q:aQ}(u:Use z q)(hr:fq (vw z q)=true):∃s0 R,s0∈z.sets/\s0.place=(bo z q.name,2)/\(cn z q).1=⟨4,s0::R,bo z q.name⟩ /\
 ∀s∈R,(s.set.type=6/\s.set.name=bo z q.name)\/(s.set.type=8/\s.set.name=bo z q.name)\/(s.set.type=1/\bG s.set.name (bo z q.name)=(true,0)/\s0.set.data.any (λd=>d.text==s.set.name)=true):=by
 have hne:bo z q.name≠[]:=by
  intro e;rw[D7,e]at hr;cases hr
 obtain⟨hcv,hcut⟩:=uh u.ord hne;have ho:=u.ord;obtain⟨k,s0,h1,h2,h3⟩:=nJ hcut;have hm0:=ar h2;have hserv:dY (vw z q)=((k:Nat):Int):=h1;have hsd:jA (vw z q)=s0.set.data:=by
  unfold jA;rw[hserv];show(match z.sets[((k:Nat):Int).toNat]? with|some s=>s.set.data|none=>[])=_
  rw[show((k:Nat):Int).toNat=k by simp,h2]
 have hlt:∀p∈eG (vw z q),p<z.sets.length:=λp hp=>uZ (v:=vw z q) hp
 have e1:cd z.sets [] (eG (vw z q))=s0::cd z.sets [dY (vw z q)] (iH (vw z q)::er (vw z q) (jA (vw z q))):=by
  unfold eG;rw[show[dY (vw z q),iH (vw z q)]++er (vw z q) (jA (vw z q))=dY (vw z q)::(iH (vw z q)::er (vw z q) (jA (vw z q)))from rfl,cd,if_neg (by rw[hserv];simp)];rw[hserv];simp[h2]
 refine⟨s0,cd z.sets [dY (vw z q)] (iH (vw z q)::er (vw z q) (jA (vw z q))),hm0,h3,?_,λs hs=>?_⟩
 . rw[u.ans];show fQ (vw z q)=_
   unfold fQ;rw[if_pos hr];unfold jM;rw[if_pos hr];show(⟨4,cd z.sets [] (eG (vw z q)),bo z q.name⟩:Ans)=_
   rw[e1]
 . obtain⟨p,hp1,hp2,hp3,hp4⟩:=sZ (λp hp=>hlt p (by unfold eG;exact aK _ hp)) s hs;have hsm:=ar hp4;have atp:∀q' :aQ,p=atI z.sets q' ->s.place=q'.place:=λq' e=>by
    have hh:bR z.sets q' =true:=by
     have:=iX z.sets q';cases hc:bR z.sets q' with
     |true=>rfl
     |false=>rw[hc]at this;simp at this;omega
    obtain⟨j,t,a1,a2,a3⟩:=nJ hh;rw[a1]at e;have:p.toNat=j:=by omega
    rw[this,a2]at hp4;cases hp4;exact a3
   rcases List.mem_cons.1 hp1 with hp|hp
   . unfold iH at hp;split at hp
     . have:=atp ⟨bo z q.name,8⟩ hp;exact .inr (.inl ⟨congrArg Prod.snd this,congrArg Prod.fst this⟩)
     . have:=atp ⟨bo z q.name,6⟩ hp;exact .inl ⟨congrArg Prod.snd this,congrArg Prod.fst this⟩
   . unfold er at hp;obtain⟨d,hd,hx⟩:=List.mem_flatMap.1 hp;split at hx
     . rename_i hu;simp at hx;have:=atp ⟨d.text,1⟩ hx;have hn:s.set.name=d.text:=congrArg Prod.fst this;refine .inr (.inr ⟨congrArg Prod.snd this,?_,?_⟩)
       . have hv:=ho.name s hsm;have hu' :(bG d.text (bo z q.name)).1=true:=hu;rw[<- hn]at hu';unfold bG at hu' ⊢;rw[if_pos ⟨hv,hcv⟩]at hu' ⊢;simp only at hu';rw[hu']
       . rw[hsd]at hd;exact List.any_eq_true.2 ⟨d,hd,by rw[hn];simp⟩
     . cases hx
end NP
